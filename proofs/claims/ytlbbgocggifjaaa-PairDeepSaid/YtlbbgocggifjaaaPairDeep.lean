/- The walk of the law PairDeep. Conditions: none beyond what it says. -/
import Derived.Test.YtlbbgocggifjaaaPairLaws
import Derived.Test.YtlbbgocggifjaaaPairDeepP
import Derived.Test.YtlbbgocggifjaaaQuoteP
namespace Go.Proofs.Ytlbbgocggifjaaa
open Go.RowKit

/-- Bytes lie in memory. -/
def U8sAt (w : World) (a : Option Addr) (K : List Int) : Prop := ∀ i, i < K.length → ∃ b off, a = some ⟨b, off, none⟩ ∧ b < w.heap.size ∧ w.cell? ⟨b, off + i, none⟩ = some (.int .u8 (K.getD i 0)) ∧ 0 ≤ K.getD i 0 ∧ K.getD i 0 ≤ 255
theorem U8sAt.below {w w' : World} {a : Option Addr} {K : List Int} (h : U8sAt w a K) {B : Nat} (hb : Below B w w') (hB : w.heap.size ≤ B) : U8sAt w' a K := fun i hi => by
  obtain ⟨b, off, e, hlt, hc, h0, h1⟩ := h i hi
  exact ⟨b, off, e, Nat.lt_of_lt_of_le hlt hb.size, (hb.cell (p := ⟨b, off + i, none⟩) (Nat.lt_of_lt_of_le hlt hB)).trans hc, h0, h1⟩
def kfP (K : List Int) (i : Nat) : Nat := ((K.getD i 0) % 3).toNat
theorem kfP_lt (K : List Int) (i : Nat) : kfP K i < 3 := by
  have h1 := Int.emod_nonneg (K.getD i 0) (show (3 : Int) ≠ 0 by omega)
  have h2 := Int.emod_lt_of_pos (K.getD i 0) (show (0 : Int) < 3 by omega)
  unfold kfP
  omega
/-- The strings so far. -/
def NestS (K : List Int) (k : Nat) (S T : ByteArray) : Prop := S.size = k ∧ T.size = k ∧ (∀ i, i < k → byt S i = opI (kfP K i)) ∧ ∀ i, i < k → byt T (k - 1 - i) = clI (kfP K i)
theorem byt_append (s t : ByteArray) (i : Nat) : byt (s ++ t) i = if i < s.size then byt s i else byt t (i - s.size) := by
  have hs : s.data.toList.length = s.size := list_len s
  unfold byt
  rw [ByteArray.data_append, Array.toList_append, List.getD_eq_getElem?_getD]
  split
  · rw [List.getElem?_append_left (by omega), ← List.getD_eq_getElem?_getD]
  · rw [List.getElem?_append_right (by omega), hs, ← List.getD_eq_getElem?_getD]
theorem nestS_more {K : List Int} {k : Nat} {S T u v : ByteArray} (h : NestS K k S T) (hu : u.size = 1) (hv : v.size = 1) (h1 : byt u 0 = opI (kfP K k)) (h2 : byt v 0 = clI (kfP K k)) : NestS K (k + 1) (S ++ u) (v ++ T) := by
  obtain ⟨a1, a2, a3, a4⟩ := h
  refine ⟨by rw [ByteArray.size_append]; omega, by rw [ByteArray.size_append]; omega, fun i hi => ?_, fun i hi => ?_⟩
  · rw [byt_append, a1]
    split
    · exact a3 i (by omega)
    · obtain rfl : i = k := by omega
      rw [Nat.sub_self]; exact h1
  · rw [byt_append, hv]
    split
    · obtain rfl : i = k := by omega
      rw [show i + 1 - 1 - i = 0 by omega]; exact h2
    · rw [show k + 1 - 1 - i - 1 = k - 1 - i by omega]
      exact a4 i (by omega)
set_option maxRecDepth 100000 in
set_option maxHeartbeats 8000000 in
theorem pairDeep_walk (a : Option Addr) (cap : Nat) (K : List Int) (at_ : Int) (W : World) (hK : U8sAt W a K) (hn : K.length ≤ 140737488351232) (hat : 0 ≤ at_ ∧ at_ ≤ 255) :
    Calls Try.prog 10 #[.slice a K.length cap, .int .u8 at_] W fun e W' => e = .returned (.bool true) ∧ Below W.heap.size W W' := by
  have HK := Lib.hid hK
  clear hK
  go_enter Try.func10, Try.ntmps10
  go_wp2_with fail
  go_at_call 44; refine (known11_any _).mono ?_; rintro e w1 ⟨rfl, hbl⟩; obtain ⟨x0, rfl⟩ := ovr_of_below hbl; clear hbl
  by_cases h0 : K.length = 0
  · have h0b : ((K.length : Int) == 0) = true := by rw [beq_iff_eq]; omega
    go_wp2_with fail
    go_ret
    exact ⟨rfl, by (repeat (first | with_reducible exact Below.refl _ _ | (with_reducible refine Below.setCell ?_ ?_ _; rotate_left; · (first | exact Nat.le_refl _ | assumption | omega | (simp; done) | (simp; omega))) | (with_reducible refine Below.alloc ?_ ?_ _; rotate_left; · (first | exact Nat.le_refl _ | assumption | omega | (simp; done) | (simp; omega))) | with_reducible refine below_ovr_of ?_ | with_reducible refine drew_below ?_ _ | with_reducible refine Below.drew ?_ | with_reducible assumption))⟩
  · have h0b : ((K.length : Int) == 0) = false := by rw [beq_eq_false_iff_ne]; omega
    by_cases h30 : K.length ≤ 30
    · have h30I : ¬ (30 : Int) < (K.length : Int) := by omega
      go_wp2_with fail
      go_loopw [5, 6, 7] (fun s t i wr => ∃ (k : Nat) (S T : ByteArray), k ≤ K.length ∧ i = .int .i64 k ∧ s = .string S ∧ t = .string T ∧ (∃ x, wr = ovr W x) ∧ Hid (NestS K k S T)) (fun _ _ i _ => K.length - (intOf i).toNat)
      case atStart => exact ⟨0, ⟨#[]⟩, ⟨#[]⟩, Nat.zero_le _, rfl, rfl, rfl, ⟨x0, rfl⟩, Lib.hid ⟨rfl, rfl, fun i hi => by omega, fun i hi => by omega⟩⟩
      case round =>
        obtain ⟨k, S, T, hk, rfl, rfl, rfl, ⟨z, rfl⟩, HS⟩ := hrel
        by_cases hlt : k < K.length
        · have hltI : (k : Int) < (K.length : Int) := by omega
          have hk0 : (0 : Int) ≤ (k : Int) := by omega
          obtain ⟨b, off, rfl, hb, hcell, v0, v1⟩ := HK.out k hlt
          have hS1 := HS.out.1
          have hS2 := HS.out.2.1
          have hsz : ¬ (9223372036854775807 < S.size + 1) := by omega
          have hsz2 : ¬ (9223372036854775807 < 1 + T.size) := by omega
          obtain ⟨x, hx⟩ : ∃ x, K.getD k 0 = x := ⟨_, rfl⟩
          have hq : kfP K k = (x % 3).toNat := by rw [kfP, hx]
          rw [hx] at hcell v0 v1
          have ht3 : x.tmod 3 = x % 3 := Int.tmod_eq_emod_of_nonneg v0
          have hq3 : x % 3 = 0 ∨ x % 3 = 1 ∨ x % 3 = 2 := by omega
          clear hx
          rcases hq3 with hq3 | hq3 | hq3
          all_goals (
            rw [hq3] at ht3 hq
            have HQ := Lib.hid hq
            clear hq
            go_wp2_with fail
            exact ⟨⟨k + 1, _, _, by omega, by go_num, rfl, rfl, ⟨z, rfl⟩, Lib.hid (nestS_more HS.out (by decide) (by decide) (by rw [HQ.out]; decide) (by rw [HQ.out]; decide))⟩, by simp [intOf]; omega⟩)
        · obtain rfl : k = K.length := by omega
          have hltI : ¬ (K.length : Int) < (K.length : Int) := by omega
          obtain ⟨hS1, hS2, hS3, hS4⟩ := HS.out
          have hN := nest_lines (kfP_lt K) hS1 hS2 hS3 hS4
          have HN := Lib.hid hN
          have hn0 : (K.length : Int) ≠ 0 := by omega
          have e1 := Int.emod_nonneg at_ hn0
          have e2 := Int.emod_lt_of_pos at_ (show (0 : Int) < (K.length : Int) by omega)
          obtain ⟨i0, hi0⟩ := Int.eq_ofNat_of_zero_le e1
          have hti : at_.tmod (K.length : Int) = (i0 : Int) := by rw [Int.tmod_eq_emod_of_nonneg hat.1]; exact hi0
          have hi0n : i0 < K.length := by omega
          have hii : (0 : Int) ≤ (i0 : Int) := by omega
          have hiiS : (i0 : Int) < (S.size : Int) := by omega
          have hM := nest_match hN hS1 hS2 hi0n
          have hso := hS3 i0 hi0n
          have hb0 := byt_at' S i0 (by omega)
          have hiS : i0 < S.size := by omega
          have hsn : ((S[i0]'hiS).toNat : Int) = opI (kfP K i0) := by rw [← hb0]; exact hso
          obtain ⟨q, hq⟩ : ∃ q, kfP K i0 = q := ⟨_, rfl⟩
          have hq3 : q < 3 := by rw [← hq]; exact kfP_lt K i0
          rw [hq] at hsn
          obtain ⟨c0, hc0⟩ : ∃ c0 : Nat, K.length - 1 - i0 = c0 := ⟨_, rfl⟩
          rw [hc0] at hM
          have hc0I : (K.length : Int) - 1 - (i0 : Int) = (c0 : Int) := by omega
          have HM := Lib.hid hM
          have HQ := Lib.hid hq
          have HS1 := Lib.hid hS1
          have HS2 := Lib.hid hS2
          have hl : LinesAt ((ovr W z).alloc (.cells #[.string S, .string ⟨#[120]⟩, .string T] 9)) (some ⟨W.heap.size + z.heap.size, 0, none⟩) [S, ⟨#[120]⟩, T] := lines_new _ _ _ (by simp) (by
            intro u hu
            simp only [List.mem_cons, List.not_mem_nil, or_false] at hu
            rcases hu with rfl | rfl | rfl
            · omega
            · decide
            · omega) rfl (by simp)
          have htot : total [S, ⟨#[120]⟩, T] ≤ 1000000 := by
            have hx : (⟨#[120]⟩ : ByteArray).size = 1 := rfl
            simp only [total_cons, hx]; simp [total]; omega
          clear e1 e2 hN hS1 hS2 hS3 hS4 HS hM hq hso hb0 hi0 hc0 hk hlt
          go_wp2_with fail
          go_at_call 45; refine (match_any _ _ _ _ _ _ hl htot).mono ?_; rw [HM.out]; rintro e w1 ⟨rfl, hbl⟩; obtain ⟨y1, rfl⟩ := ovr_of_below hbl; clear hbl
          go_wp2_with fail
          refine name_world ?_
          intro W0 hW0
          have hbel : Below W.heap.size W W0 := by rw [hW0]; (repeat (first | with_reducible exact Below.refl _ _ | (with_reducible refine Below.setCell ?_ ?_ _; rotate_left; · (first | exact Nat.le_refl _ | assumption | omega | (simp; done) | (simp; omega))) | (with_reducible refine Below.alloc ?_ ?_ _; rotate_left; · (first | exact Nat.le_refl _ | assumption | omega | (simp; done) | (simp; omega))) | with_reducible refine below_ovr_of ?_ | with_reducible refine drew_below ?_ _ | with_reducible refine Below.drew ?_ | with_reducible assumption))
          have hl0 : LinesAt W0 (some ⟨W.heap.size + z.heap.size, 0, none⟩) [S, ⟨#[120]⟩, T] := by rw [hW0]; exact LinesAt.alloc (LinesAt.ovr hl y1) _
          obtain ⟨Mb, hMb⟩ : ∃ Mb, W.heap.size + z.heap.size + 1 + y1.heap.size = Mb := ⟨_, rfl⟩
          have gm0 : W0.cell? ⟨Mb, 0, none⟩ = some (.int .i64 2) := by rw [hW0, ← hMb]; simp [go_sem]
          have gm1 : W0.cell? ⟨Mb, 1, none⟩ = some (.int .i64 (c0 : Int)) := by rw [hW0, ← hMb]; simp [go_sem]
          obtain ⟨Lb, hLb⟩ : ∃ Lb, W.heap.size + z.heap.size = Lb := ⟨_, rfl⟩
          rw [hLb] at hl0
          try rw [hMb]
          try rw [hLb]
          have HK0 := Lib.hid (HK.out.below hbel (Nat.le_refl _))
          have hszW := hbel.size
          have lm := cell_lt9 gm0
          obtain ⟨b, off, rfl, hbi, hcelli, vi0, vi1⟩ := HK0.out i0 hi0n
          obtain ⟨xi, hxi⟩ : ∃ xi, K.getD i0 0 = xi := ⟨_, rfl⟩
          rw [hxi] at hcelli vi0 vi1
          have hqi : q = (xi % 3).toNat := by rw [← HQ.out, kfP, hxi]
          have hti3 : xi.tmod 3 = (q : Int) := by rw [Int.tmod_eq_emod_of_nonneg vi0]; omega
          obtain ⟨ov, hov⟩ : ∃ ov, opI q = ov := ⟨_, rfl⟩
          rw [hov] at hsn
          have HAT := Lib.hid (fun (k : Nat) (hk : k < K.length) (hf : kfP K k = q) => nest_at HN.out HS1.out HS2.out hq3 hk hf)
          have HOUT := Lib.hid (nest_out HN.out HS1.out HS2.out hq3)
          rw [hov] at HAT HOUT
          clear hW0 hMb hLb hqi hxi hov hl
          go_loopw [14, 15] (fun c k wr => ∃ j : Nat, j ≤ K.length ∧ k = .int .i64 ((j : Int) - 1) ∧ c = .int .i64 ((cntP (kfP K) q j K.length : Nat) : Int) ∧ ∃ x, wr = ovr W0 x) (fun _ k _ => (intOf k + 1).toNat)
          case atStart => exact ⟨K.length, Nat.le_refl _, rfl, by rw [cntP_low (Nat.le_refl _)]; rfl, { W0 with heap := #[] }, by simp [ovr]⟩
          case round =>
            obtain ⟨j, hj, rfl, rfl, z2, rfl⟩ := hrel
            by_cases hj0 : 0 < j
            · obtain ⟨m, hm⟩ : ∃ m, j - 1 = m := ⟨_, rfl⟩
              have hmI : (j : Int) - 1 = (m : Int) := by omega
              have hmn : m < K.length := by omega
              have hmnI : (m : Int) < (K.length : Int) := by omega
              have hm0 : (0 : Int) ≤ (m : Int) := by omega
              obtain ⟨b', off', e', hbm, hcellm, vm0, vm1⟩ := HK0.out m hmn
              cases e'
              obtain ⟨xm, hxm⟩ : ∃ xm, K.getD m 0 = xm := ⟨_, rfl⟩
              rw [hxm] at hcellm vm0 vm1
              have hstep := cntP_step (f := kfP K) (q := q) hmn
              rw [show m + 1 = j by omega] at hstep
              have hqm : kfP K m = (xm % 3).toNat := by rw [kfP, hxm]
              obtain ⟨p, hp⟩ : ∃ p, (xm % 3).toNat = p := ⟨_, rfl⟩
              have htm3 : xm.tmod 3 = (p : Int) := by rw [Int.tmod_eq_emod_of_nonneg vm0]; omega
              rw [hp] at hqm
              obtain ⟨cc, hcc⟩ : ∃ cc, cntP (kfP K) q j K.length = cc := ⟨_, rfl⟩
              rw [hcc] at hstep ⊢
              by_cases hpq : p = q
              · subst hpq
                rw [if_pos hqm] at hstep
                have hat2 := HAT.out m hmn hqm
                have hcl : cc ≤ K.length := by rw [← hcc]; exact cntP_le _ _ _ _
                rw [hstep, show ((1 + cc : Nat) : Int) = (cc : Int) + 1 by omega] at hat2
                obtain ⟨d0, hd0⟩ : ∃ d0 : Nat, K.length - 1 - m = d0 := ⟨_, rfl⟩
                rw [hd0] at hat2
                have hd0I : (K.length : Int) - 1 - (m : Int) = (d0 : Int) := by omega
                have HA2 := Lib.hid hat2
                have HST := Lib.hid hstep
                have hccI : (cc : Int) ≤ 100 := by omega
                have hj1 : ((j : Int) - 1) - 1 = (m : Int) - 1 := by omega
                clear hat2 hstep hxm hp hqm hcc hd0 hm hcl
                rw [hmI]
                clear hmI
                go_wp2_with fail
                go_quiet (fail)
                go_wp2_with fail
                go_at_call 50; refine (encl_any _ _ [S, ⟨#[120]⟩, T] _ _ _ _ _ (by (repeat (first | assumption | refine LinesAt.ovr ?_ _ | refine LinesAt.alloc ?_ _ | refine LinesAt.drewN ?_ _ | refine LinesAt.drew ?_))) htot (by omega)).mono ?_; rw [HA2.out]; rintro e w1 ⟨rfl, hbl⟩; obtain ⟨y2, rfl⟩ := ovr_of_below hbl; clear hbl
                go_wp2_with fail
                go_roundw
                case rel => exact ⟨m, by omega, by go_num, by rw [HST.out]; go_num, ovr_of_below (by (repeat (first | with_reducible exact Below.refl _ _ | (with_reducible refine Below.setCell ?_ ?_ _; rotate_left; · (first | exact Nat.le_refl _ | assumption | omega | (simp; done) | (simp; omega))) | (with_reducible refine Below.alloc ?_ ?_ _; rotate_left; · (first | exact Nat.le_refl _ | assumption | omega | (simp; done) | (simp; omega))) | with_reducible refine below_ovr_of ?_ | with_reducible refine drew_below ?_ _ | with_reducible refine Below.drew ?_ | with_reducible assumption)))⟩
                case measure => simp [intOf] <;> omega
              · have hne : ((p : Int) != (q : Int)) = true := by rw [bne_iff_ne]; omega
                rw [if_neg (fun e => hpq (by rw [← hqm]; exact e)), Nat.zero_add] at hstep
                have HST := Lib.hid hstep
                clear hstep hxm hp hqm hcc hm
                rw [hmI]
                clear hmI
                go_wp2_with fail
                go_quiet (fail)
                go_wp2_with fail
                go_roundw
                case rel => exact ⟨m, by omega, by go_num, by rw [HST.out], _, rfl⟩
                case measure => simp [intOf] <;> omega
            · obtain rfl : j = 0 := by omega
              obtain ⟨cc, hcc⟩ : ∃ cc, cntP (kfP K) q 0 K.length = cc := ⟨_, rfl⟩
              have hcl : cc ≤ K.length := by rw [← hcc]; exact cntP_le _ _ _ _
              have ho2 := HOUT.out
              rw [hcc, show ((cc + 1 : Nat) : Int) = (cc : Int) + 1 by omega, noEnc] at ho2
              rw [hcc]
              have HO2 := Lib.hid ho2
              have hccI : (cc : Int) ≤ 100 := by omega
              have hpl : plcB [S, ⟨#[120]⟩, T] (2 : Int) (c0 : Int) = true := by
                have h2 := HS2.out
                exact plcB_nat (l := 2) (c := c0) (by simp) (by show c0 ≤ T.size; omega)
              have HPL := Lib.hid hpl
              clear ho2 hcc hcl hpl
              go_wp2_with fail
              go_at_call 50; refine (encl_any _ _ [S, ⟨#[120]⟩, T] _ _ _ _ _ (by (repeat (first | assumption | refine LinesAt.ovr ?_ _ | refine LinesAt.alloc ?_ _ | refine LinesAt.drewN ?_ _ | refine LinesAt.drew ?_))) htot (by omega)).mono ?_; rw [HO2.out]; rintro e w1 ⟨rfl, hbl⟩; obtain ⟨y2, rfl⟩ := ovr_of_below hbl; clear hbl
              go_wp2_with fail
              go_at_call 52; refine (rplace_any _ _ [S, ⟨#[120]⟩, T] _ _ _ (by (repeat (first | assumption | refine LinesAt.ovr ?_ _ | refine LinesAt.alloc ?_ _ | refine LinesAt.drewN ?_ _ | refine LinesAt.drew ?_)))).mono ?_; rw [HPL.out]; rintro e w1 ⟨rfl, hbl⟩; obtain ⟨y3, rfl⟩ := ovr_of_below hbl; clear hbl
              go_wp2_with fail
              go_ret
              exact ⟨by simp, by (repeat (first | with_reducible exact Below.refl _ _ | (with_reducible refine Below.setCell ?_ ?_ _; rotate_left; · (first | exact Nat.le_refl _ | assumption | omega | (simp; done) | (simp; omega))) | (with_reducible refine Below.alloc ?_ ?_ _; rotate_left; · (first | exact Nat.le_refl _ | assumption | omega | (simp; done) | (simp; omega))) | with_reducible refine below_ovr_of ?_ | with_reducible refine drew_below ?_ _ | with_reducible refine Below.drew ?_ | with_reducible assumption))⟩
    · have h30I : (30 : Int) < (K.length : Int) := by omega
      go_wp2_with fail
      go_ret
      exact ⟨rfl, by (repeat (first | with_reducible exact Below.refl _ _ | (with_reducible refine Below.setCell ?_ ?_ _; rotate_left; · (first | exact Nat.le_refl _ | assumption | omega | (simp; done) | (simp; omega))) | (with_reducible refine Below.alloc ?_ ?_ _; rotate_left; · (first | exact Nat.le_refl _ | assumption | omega | (simp; done) | (simp; omega))) | with_reducible refine below_ovr_of ?_ | with_reducible refine drew_below ?_ _ | with_reducible refine Below.drew ?_ | with_reducible assumption))⟩
end Go.Proofs.Ytlbbgocggifjaaa
