/- The contract of the reference's Seek, backwards. Conditions: none beyond what it says. -/
import Derived.Test.YtmafieomlhpdeaaChars10
import Derived.Test.YtmafieomlhpdeaaChars4
namespace Go.Proofs.Ytmafieomlhpdeaa
open Go.RowKit

set_option maxHeartbeats 2000000 in
theorem rseek_70 (a : Option Addr) (cap : Nat) (L : List ByteArray) (pl c n : Int) (pc : Nat) (w : World) (hL : LinesAt w a L) (hn2 : n ≤ 9223372036854775807) (hp : plcB L pl pc = true) (h1 : 1 ≤ n) :
    Calls Try.prog 25 #[.slice a L.length cap, .agg #[.int .i64 pl, .int .i64 pc], .int .u8 70, .int .u8 c, .int .i64 n] w fun e w' =>
      e = .returned (movV (seekP L pl pc 70 c n)) ∧ Below w.heap.size w w' := by
  have hn := hL.2.1
  have HQ : Hid ((plcB L pl pc && decide (1 ≤ n)) = true) := Lib.hid (by simp [hp, h1])
  obtain ⟨p1, p2, p3, p4⟩ := plcB_spec hp
  obtain ⟨b, off, s, rfl, hb, hcell, hs, HS⟩ := line_facts hL p1 p2
  rw [HS.out] at p4
  have p5 : pc ≤ s.size := by omega
  obtain ⟨A, hA⟩ : ∃ A, bwdN s c n pc = A := ⟨_, rfl⟩
  have hsp := bwdN_spec (s := s) (c := c) pc n
  rw [hA] at hsp
  have hy := seekP_bwd (key := 70) (c := c) hp h1 (by simp) HS.out hA
  have HA := Lib.hid hA
  have HY := Lib.hid hy
  have HSP := Lib.hid hsp
  clear hA hy hsp
  go_enter Try.func25, Try.ntmps25
  go_wp2_with (go_at_call 57; refine (rmay_any _ _ L _ _ _ _ (by (repeat (first | assumption | refine LinesAt.ovr ?_ _ | refine LinesAt.alloc ?_ _ | refine LinesAt.drewN ?_ _ | refine LinesAt.drew ?_)))).mono ?_; rw [HQ.out]; rintro e w1 ⟨rfl, hbl⟩; obtain ⟨x, rfl⟩ := ovr_of_below hbl; clear hbl)
  rcases (by omega : (pc : Int) ≤ (s.size : Int) ∧ pc ≤ s.size) with ⟨pcs, _⟩
  go_loop [4, 13, 15] (fun nn at' i => ∃ (k : Nat) (m t : Int), k ≤ pc ∧ i = .int .i64 ((k : Int) - 1) ∧ nn = .int .i64 m ∧ at' = .int .i64 t ∧ 0 ≤ m ∧ m ≤ n ∧ Hid ((1 ≤ m ∧ bwdN s c m k = A) ∨ (m = 0 ∧ t = A ∧ 0 ≤ A))) (fun _ _ i => (intOf i + 1).toNat)
  case atStart => exact ⟨pc, n, -1, by omega, rfl, rfl, rfl, by omega, Int.le_refl _, Lib.hid (.inl ⟨h1, HA.out⟩)⟩
  case round =>
    obtain ⟨k, m, t, hk, rfl, rfl, rfl, hm0, hm1, HM⟩ := hrel
    by_cases hmz : 1 ≤ m
    · have hf : bwdN s c m k = A := by rcases HM.out with h | h
                                       · exact h.2
                                       · omega
      cases k with
      | succ k =>
        have hlt : k < s.size := by omega
        have hkk : ((k + 1 : Nat) : Int) - 1 = (k : Int) := by omega
        rw [hkk]
        clear hkk
        by_cases hb : byt s k = c
        · have hbb : ((s[k].toNat : Int) == c) = true := by rw [beq_iff_eq, ← hb]; exact (byt_at s k hlt).symm
          by_cases hm : m = 1
          · have hg := bwdN_hit (s := s) (c := c) (n := m) (i := k) hb hm
            have HG := Lib.hid (hg.symm.trans hf)
            subst hm
            clear hb hf hg HM
            go_wp2
            go_round
            case rel => exact ⟨k, 0, k, by omega, by go_num, by go_num, rfl, by omega, by omega, Lib.hid (.inr ⟨rfl, HG.out, by have := HG.out; omega⟩)⟩
            case measure => first | (simp [intOf]; done) | (simp [intOf]; omega)
          · have HG := Lib.hid ((bwdN_more (s := s) (c := c) (n := m) (i := k) hb hm).symm.trans hf)
            have hm3 : 2 ≤ m := by omega
            clear hb hf hm HM
            go_wp2
            go_round
            case rel => exact ⟨k, m - 1, k, by omega, by go_num, rfl, rfl, by omega, by omega, Lib.hid (.inl ⟨by omega, HG.out⟩)⟩
            case measure => first | (simp [intOf]; done) | (simp [intOf]; omega)
        · have hbb : ((s[k].toNat : Int) == c) = false := by rw [beq_eq_false_iff_ne]; intro e; exact hb (by rw [byt_at s k hlt]; exact e)
          have HG := Lib.hid ((bwdN_miss (c := c) (n := m) hb).symm.trans hf)
          clear hb hf HM
          go_wp2
          go_round
          case rel => exact ⟨k, m, t, by omega, by go_num, rfl, rfl, by omega, by omega, Lib.hid (.inl ⟨by omega, HG.out⟩)⟩
          case measure => first | (simp [intOf]; done) | (simp [intOf]; omega)
      | zero =>
        have hA1 : A = -1 := by rw [← hf, bwdN_end]
        subst hA1
        have HP := Lib.hid (HY.out.trans (seekM_no pl 70))
        clear hf HM
        go_wp2_with (go_at_call 58; refine (rnone_any _).mono ?_; rintro e w1 ⟨rfl, hbl⟩; obtain ⟨x, rfl⟩ := ovr_of_below hbl; clear hbl)
        refine bodyPost_ret (v := movV noMov) (by simp [results, Try.results25, go_sem, noMov]) rfl ⟨by rw [HP.out], by (repeat (first | exact Below.refl _ _ | refine Below.alloc ?_ (by first | exact Nat.le_refl _ | (simp; done) | (simp; omega)) _ | refine below_ovr_of ?_ | refine drew_below ?_ _ | refine Below.drew ?_ | refine Below.setCell ?_ (by first | exact Nat.le_refl _ | (simp; done) | (simp; omega)) _ | assumption))⟩
    · have hz : m = 0 ∧ t = A ∧ 0 ≤ A := by
        rcases HM.out with h | h
        · omega
        · exact h
      have ab : A ≤ 140737488351232 := by rcases HSP.out with h | h <;> omega
      obtain ⟨rfl, rfl, a0⟩ := hz
      have HP := Lib.hid (HY.out.trans (seekM_70 a0))
      clear HM hmz
      rcases (by omega : (k : Int) - 1 < 0 ∨ 0 ≤ (k : Int) - 1) with hk0 | hk0
      all_goals (
        go_wp2_with (go_at_call 64; refine (rto_any _ _ _).mono ?_; rintro e w1 ⟨rfl, hbl⟩; obtain ⟨x, rfl⟩ := ovr_of_below hbl; clear hbl)
        simp [bodyPost, results, Try.results25, go_sem]
        rw [HP.out]
        refine ⟨by simp; try omega, by (repeat (first | exact Below.refl _ _ | refine Below.alloc ?_ (by first | exact Nat.le_refl _ | (simp; done) | (simp; omega)) _ | refine below_ovr_of ?_ | refine drew_below ?_ _ | refine Below.drew ?_ | refine Below.setCell ?_ (by first | exact Nat.le_refl _ | (simp; done) | (simp; omega)) _ | assumption))⟩)
set_option maxHeartbeats 2000000 in
theorem rseek_84 (a : Option Addr) (cap : Nat) (L : List ByteArray) (pl c n : Int) (pc : Nat) (w : World) (hL : LinesAt w a L) (hn2 : n ≤ 9223372036854775807) (hp : plcB L pl pc = true) (h1 : 1 ≤ n) :
    Calls Try.prog 25 #[.slice a L.length cap, .agg #[.int .i64 pl, .int .i64 pc], .int .u8 84, .int .u8 c, .int .i64 n] w fun e w' =>
      e = .returned (movV (seekP L pl pc 84 c n)) ∧ Below w.heap.size w w' := by
  have hn := hL.2.1
  have HQ : Hid ((plcB L pl pc && decide (1 ≤ n)) = true) := Lib.hid (by simp [hp, h1])
  obtain ⟨p1, p2, p3, p4⟩ := plcB_spec hp
  obtain ⟨b, off, s, rfl, hb, hcell, hs, HS⟩ := line_facts hL p1 p2
  rw [HS.out] at p4
  have p5 : pc ≤ s.size := by omega
  obtain ⟨A, hA⟩ : ∃ A, bwdN s c n pc = A := ⟨_, rfl⟩
  have hsp := bwdN_spec (s := s) (c := c) pc n
  rw [hA] at hsp
  have hy := seekP_bwd (key := 84) (c := c) hp h1 (by simp) HS.out hA
  have HA := Lib.hid hA
  have HY := Lib.hid hy
  have HSP := Lib.hid hsp
  clear hA hy hsp
  go_enter Try.func25, Try.ntmps25
  go_wp2_with (go_at_call 57; refine (rmay_any _ _ L _ _ _ _ (by (repeat (first | assumption | refine LinesAt.ovr ?_ _ | refine LinesAt.alloc ?_ _ | refine LinesAt.drewN ?_ _ | refine LinesAt.drew ?_)))).mono ?_; rw [HQ.out]; rintro e w1 ⟨rfl, hbl⟩; obtain ⟨x, rfl⟩ := ovr_of_below hbl; clear hbl)
  rcases (by omega : (pc : Int) ≤ (s.size : Int) ∧ pc ≤ s.size) with ⟨pcs, _⟩
  go_loop [4, 13, 15] (fun nn at' i => ∃ (k : Nat) (m t : Int), k ≤ pc ∧ i = .int .i64 ((k : Int) - 1) ∧ nn = .int .i64 m ∧ at' = .int .i64 t ∧ 0 ≤ m ∧ m ≤ n ∧ Hid ((1 ≤ m ∧ bwdN s c m k = A) ∨ (m = 0 ∧ t = A ∧ 0 ≤ A))) (fun _ _ i => (intOf i + 1).toNat)
  case atStart => exact ⟨pc, n, -1, by omega, rfl, rfl, rfl, by omega, Int.le_refl _, Lib.hid (.inl ⟨h1, HA.out⟩)⟩
  case round =>
    obtain ⟨k, m, t, hk, rfl, rfl, rfl, hm0, hm1, HM⟩ := hrel
    by_cases hmz : 1 ≤ m
    · have hf : bwdN s c m k = A := by rcases HM.out with h | h
                                       · exact h.2
                                       · omega
      cases k with
      | succ k =>
        have hlt : k < s.size := by omega
        have hkk : ((k + 1 : Nat) : Int) - 1 = (k : Int) := by omega
        rw [hkk]
        clear hkk
        by_cases hb : byt s k = c
        · have hbb : ((s[k].toNat : Int) == c) = true := by rw [beq_iff_eq, ← hb]; exact (byt_at s k hlt).symm
          by_cases hm : m = 1
          · have hg := bwdN_hit (s := s) (c := c) (n := m) (i := k) hb hm
            have HG := Lib.hid (hg.symm.trans hf)
            subst hm
            clear hb hf hg HM
            go_wp2
            go_round
            case rel => exact ⟨k, 0, k, by omega, by go_num, by go_num, rfl, by omega, by omega, Lib.hid (.inr ⟨rfl, HG.out, by have := HG.out; omega⟩)⟩
            case measure => first | (simp [intOf]; done) | (simp [intOf]; omega)
          · have HG := Lib.hid ((bwdN_more (s := s) (c := c) (n := m) (i := k) hb hm).symm.trans hf)
            have hm3 : 2 ≤ m := by omega
            clear hb hf hm HM
            go_wp2
            go_round
            case rel => exact ⟨k, m - 1, k, by omega, by go_num, rfl, rfl, by omega, by omega, Lib.hid (.inl ⟨by omega, HG.out⟩)⟩
            case measure => first | (simp [intOf]; done) | (simp [intOf]; omega)
        · have hbb : ((s[k].toNat : Int) == c) = false := by rw [beq_eq_false_iff_ne]; intro e; exact hb (by rw [byt_at s k hlt]; exact e)
          have HG := Lib.hid ((bwdN_miss (c := c) (n := m) hb).symm.trans hf)
          clear hb hf HM
          go_wp2
          go_round
          case rel => exact ⟨k, m, t, by omega, by go_num, rfl, rfl, by omega, by omega, Lib.hid (.inl ⟨by omega, HG.out⟩)⟩
          case measure => first | (simp [intOf]; done) | (simp [intOf]; omega)
      | zero =>
        have hA1 : A = -1 := by rw [← hf, bwdN_end]
        subst hA1
        have HP := Lib.hid (HY.out.trans (seekM_no pl 84))
        clear hf HM
        go_wp2_with (go_at_call 58; refine (rnone_any _).mono ?_; rintro e w1 ⟨rfl, hbl⟩; obtain ⟨x, rfl⟩ := ovr_of_below hbl; clear hbl)
        refine bodyPost_ret (v := movV noMov) (by simp [results, Try.results25, go_sem, noMov]) rfl ⟨by rw [HP.out], by (repeat (first | exact Below.refl _ _ | refine Below.alloc ?_ (by first | exact Nat.le_refl _ | (simp; done) | (simp; omega)) _ | refine below_ovr_of ?_ | refine drew_below ?_ _ | refine Below.drew ?_ | refine Below.setCell ?_ (by first | exact Nat.le_refl _ | (simp; done) | (simp; omega)) _ | assumption))⟩
    · have hz : m = 0 ∧ t = A ∧ 0 ≤ A := by
        rcases HM.out with h | h
        · omega
        · exact h
      have ab : A ≤ 140737488351232 := by rcases HSP.out with h | h <;> omega
      obtain ⟨rfl, rfl, a0⟩ := hz
      have HP := Lib.hid (HY.out.trans (seekM_84 a0))
      clear HM hmz
      rcases (by omega : (k : Int) - 1 < 0 ∨ 0 ≤ (k : Int) - 1) with hk0 | hk0
      all_goals (
        go_wp2_with (go_at_call 64; refine (rto_any _ _ _).mono ?_; rintro e w1 ⟨rfl, hbl⟩; obtain ⟨x, rfl⟩ := ovr_of_below hbl; clear hbl)
        simp [bodyPost, results, Try.results25, go_sem]
        rw [HP.out]
        refine ⟨by simp; try omega, by (repeat (first | exact Below.refl _ _ | refine Below.alloc ?_ (by first | exact Nat.le_refl _ | (simp; done) | (simp; omega)) _ | refine below_ovr_of ?_ | refine drew_below ?_ _ | refine Below.drew ?_ | refine Below.setCell ?_ (by first | exact Nat.le_refl _ | (simp; done) | (simp; omega)) _ | assumption))⟩)
end Go.Proofs.Ytmafieomlhpdeaa
