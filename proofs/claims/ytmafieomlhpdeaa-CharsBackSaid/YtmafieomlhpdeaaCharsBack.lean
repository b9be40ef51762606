/- The walk of the law CharsBack. Conditions: none beyond what it says. -/
import Derived.Test.YtmafieomlhpdeaaCharsLaws
import Derived.Deep.RegionHeld3
import Derived.Outline
namespace Go.Proofs.Ytmafieomlhpdeaa
open Go.RowKit


theorem back_of_fwd {s : ByteArray} {c A : Int} {p : Nat} : ∀ (k i : Nat) (n m : Int), s.size - i = k → 1 ≤ n → 1 ≤ m → fwdN s c n i = A → 0 ≤ A → bwdN s c m i = p → bwdN s c (m + n - 1) A.toNat = p
  | 0, i, n, m, h, h1, h2, hf, ha, hb => by
    rw [fwdN_end (s := s) (by omega)] at hf; omega
  | k + 1, i, n, m, h, h1, h2, hf, ha, hb => by
    have hi : i < s.size := by omega
    by_cases hc : byt s i = c
    · by_cases hn : n = 1
      · rw [fwdN_hit hi hc hn] at hf
        subst hf
        rw [show m + n - 1 = m from by omega, Int.toNat_natCast]; exact hb
      · rw [fwdN_more hi hc hn] at hf
        have := back_of_fwd (s := s) (c := c) (A := A) (p := p) k (i + 1) (n - 1) (m + 1) (by omega) (by omega) (by omega) hf ha (by rw [bwdN_more hc (by omega), show m + 1 - 1 = m from by omega]; exact hb)
        rw [show m + 1 + (n - 1) - 1 = m + n - 1 from by omega] at this
        exact this
    · rw [fwdN_miss hi hc] at hf
      exact back_of_fwd (s := s) (c := c) (A := A) (p := p) k (i + 1) n m (by omega) h1 h2 hf ha (by rw [bwdN_miss hc]; exact hb)

set_option maxHeartbeats 4000000 in
theorem charsBack_walk (a : Option Addr) (cap : Nat) (L : List ByteArray) (sa sb sn : Int) (W : World) (hL : LinesAt W a L) (hsa : 0 ≤ sa ∧ sa ≤ 65535) (hsb : 0 ≤ sb ∧ sb ≤ 65535) (hsn : 0 ≤ sn ∧ sn ≤ 255) :
    Calls Try.prog 9 #[.slice a L.length cap, .int .u16 sa, .int .u16 sb, .int .u8 sn] W fun e W' => e = .returned (.bool true) ∧ Below W.heap.size W W' := by
  obtain ⟨n0, n1⟩ := hsn
  cases hli : textB L with
  | false =>
    go_enter Try.func9, Try.ntmps9
    go_wp2_with (first | (go_at_call 23; refine (known7_any _).mono ?_; rintro e w1 ⟨rfl, hbl⟩; obtain ⟨x, rfl⟩ := ovr_of_below hbl; clear hbl) | (go_at_call 16; refine (text_any _ _ L _ (by (repeat (first | assumption | refine LinesAt.ovr ?_ _ | refine LinesAt.alloc ?_ _ | refine LinesAt.drewN ?_ _ | refine LinesAt.drew ?_)))).mono ?_; rintro e w1 ⟨rfl, rfl⟩))
    go_ret
    exact ⟨rfl, by (repeat (first | exact Below.refl _ _ | refine Below.alloc ?_ (by first | exact Nat.le_refl _ | (simp; done) | (simp; omega)) _ | refine below_ovr_of ?_ | refine drew_below ?_ _ | refine Below.drew ?_ | refine Below.setCell ?_ (by first | exact Nat.le_refl _ | (simp; done) | (simp; omega)) _ | assumption))⟩
  | true =>
    obtain ⟨h0, hn, htot, _⟩ := text_spec hli
    obtain ⟨pl, pc, hsl, hsc, hp⟩ := seat_facts (L := L) (x := sa) (y := sb) h0 hsa.1
    have HSLpl := Lib.hid hsl
    have HSCpl := Lib.hid hsc
    clear hsl hsc
    obtain ⟨p1, p2, p3, p4⟩ := plcB_spec hp
    obtain ⟨b, off, s, rfl, hb, hcell, hs, HS⟩ := line_facts hL p1 p2
    have hz := szI_eq HS.out
    obtain ⟨pc, rfl⟩ := Int.eq_ofNat_of_zero_le p3
    rw [HS.out] at p4
    by_cases hlt : pc < s.size
    · have hltI : (pc : Int) < (s.size : Int) := by omega
      obtain ⟨c, hc⟩ : ∃ c : Int, (s[pc].toNat : Int) = c := ⟨_, rfl⟩
      have hbc : byt s pc = c := (byt_at s pc hlt).trans hc
      obtain ⟨n, hnn⟩ : ∃ n : Int, sn % 3 + 1 = n := ⟨_, rfl⟩
      have k1 : 1 ≤ n := by omega
      have k2 : n ≤ 3 := by omega
      obtain ⟨A, hA⟩ : ∃ A, fwdN s c n (pc + 1) = A := ⟨_, rfl⟩
      have hf := seekP_fwd (key := 102) (c := c) hp k1 (by simp) HS.out hA
      have hsp := fwdN_spec (s := s) (c := c) (s.size - (pc + 1)) (pc + 1) n rfl
      rw [hA] at hsp
      rcases hsp with hA1 | ⟨a1, a2⟩
      · subst hA1
        rw [seekM_no] at hf
        have HF := Lib.hid (hf.trans (rfl : noMov = ((0, 0, 0, false, 0), false)))
        clear hf hA hz hbc
        go_enter Try.func9, Try.ntmps9
        go_wp2_with (first | (go_at_call 23; refine (known7_any _).mono ?_; rintro e w1 ⟨rfl, hbl⟩; obtain ⟨x, rfl⟩ := ovr_of_below hbl; clear hbl) | (go_at_call 16; refine (text_any _ _ L _ (by (repeat (first | assumption | refine LinesAt.ovr ?_ _ | refine LinesAt.alloc ?_ _ | refine LinesAt.drewN ?_ _ | refine LinesAt.drew ?_)))).mono ?_; rintro e w1 ⟨rfl, rfl⟩))
        go_at_call 17; refine (seat_at _ _ L _ _ _ (by (repeat (first | assumption | refine LinesAt.ovr ?_ _ | refine LinesAt.alloc ?_ _ | refine LinesAt.drewN ?_ _ | refine LinesAt.drew ?_))) h0 hsa hsb HSLpl HSCpl).mono ?_; rintro e w1 ⟨rfl, hbl⟩; obtain ⟨y, rfl⟩ := ovr_of_below hbl; clear hbl
        go_wp2
        go_region_held3 (fun w' => W.heap.size + x.heap.size + y.heap.size < w'.heap.size ∧ w'.cell? ⟨W.heap.size + x.heap.size + y.heap.size, 0, none⟩ = some (.int .i64 pl) ∧ w'.cell? ⟨W.heap.size + x.heap.size + y.heap.size, 1, none⟩ = some (.int .i64 pc)) ((go_split_ands; (first | (simp [go_sem]; done) | (simp [go_sem, *]; done) | ((repeat' apply And.intro) <;> first | assumption | (refine cell_keep9 (w := W0) (by (repeat (first | with_reducible exact Below.refl _ _ | (with_reducible refine Below.setCell ?_ ?_ _; rotate_left; · (first | exact Nat.le_refl _ | assumption | omega | (simp; done) | (simp; omega))) | (with_reducible refine Below.alloc ?_ ?_ _; rotate_left; · (first | exact Nat.le_refl _ | assumption | omega | (simp; done) | (simp; omega))) | with_reducible refine below_ovr_of ?_ | with_reducible refine drew_below ?_ _ | with_reducible refine Below.drew ?_ | with_reducible assumption))) (by assumption)) | (refine cell_keep9 (below_ovr _ _) ?_; assumption) | (simp [go_sem]; done) | (simp [go_sem, *]; done) | (simp [go_sem]; omega))))) ((go_at_call 24; refine (cseek_any _ _ L _ _ _ _ _ _ (by (repeat (first | assumption | refine LinesAt.ovr ?_ _ | refine LinesAt.alloc ?_ _ | refine LinesAt.drewN ?_ _ | refine LinesAt.drew ?_))) (by omega)).mono ?_; rw [HF.out]; rintro e w1 ⟨rfl, hbl⟩; obtain ⟨x, rfl⟩ := ovr_of_below hbl; clear hbl))
        all_goals (
          go_wp2
          go_ret
          exact ⟨ret_bool (by simp; try omega), by (repeat (first | with_reducible exact Below.refl _ _ | (with_reducible refine Below.setCell ?_ ?_ _; rotate_left; · (first | exact Nat.le_refl _ | assumption | omega | (simp; done) | (simp; omega))) | (with_reducible refine Below.alloc ?_ ?_ _; rotate_left; · (first | exact Nat.le_refl _ | assumption | omega | (simp; done) | (simp; omega))) | with_reducible refine below_ovr_of ?_ | with_reducible refine drew_below ?_ _ | with_reducible refine Below.drew ?_ | with_reducible assumption))⟩)
      · have a0 : 0 ≤ A := by omega
        rw [seekM_102 a0] at hf
        have hbk := back_of_fwd (s := s) (c := c) (A := A) (p := pc) _ (pc + 1) n 1 rfl k1 (by omega) hA a0 (bwdN_hit hbc rfl)
        rw [show 1 + n - 1 = n from by omega] at hbk
        have hpA : plcB L pl A = true := plcB_mk p1 p2 a0 (by rw [hz]; omega)
        obtain ⟨A, rfl⟩ := Int.eq_ofNat_of_zero_le a0
        rw [Int.toNat_natCast] at hbk
        have hg := seekP_bwd (key := 70) (c := c) hpA k1 (by simp) HS.out hbk
        rw [seekM_70 (by omega)] at hg
        have HF := Lib.hid hf
        have HG := Lib.hid hg
        clear hf hg hA hz hbc hbk
        go_enter Try.func9, Try.ntmps9
        go_wp2_with (first | (go_at_call 23; refine (known7_any _).mono ?_; rintro e w1 ⟨rfl, hbl⟩; obtain ⟨x, rfl⟩ := ovr_of_below hbl; clear hbl) | (go_at_call 16; refine (text_any _ _ L _ (by (repeat (first | assumption | refine LinesAt.ovr ?_ _ | refine LinesAt.alloc ?_ _ | refine LinesAt.drewN ?_ _ | refine LinesAt.drew ?_)))).mono ?_; rintro e w1 ⟨rfl, rfl⟩))
        go_at_call 17; refine (seat_at _ _ L _ _ _ (by (repeat (first | assumption | refine LinesAt.ovr ?_ _ | refine LinesAt.alloc ?_ _ | refine LinesAt.drewN ?_ _ | refine LinesAt.drew ?_))) h0 hsa hsb HSLpl HSCpl).mono ?_; rintro e w1 ⟨rfl, hbl⟩; obtain ⟨y, rfl⟩ := ovr_of_below hbl; clear hbl
        go_wp2
        go_region_held3 (fun w' => W.heap.size + x.heap.size + y.heap.size < w'.heap.size ∧ w'.cell? ⟨W.heap.size + x.heap.size + y.heap.size, 0, none⟩ = some (.int .i64 pl) ∧ w'.cell? ⟨W.heap.size + x.heap.size + y.heap.size, 1, none⟩ = some (.int .i64 pc)) ((go_split_ands; (first | (simp [go_sem]; done) | (simp [go_sem, *]; done) | ((repeat' apply And.intro) <;> first | assumption | (refine cell_keep9 (w := W0) (by (repeat (first | with_reducible exact Below.refl _ _ | (with_reducible refine Below.setCell ?_ ?_ _; rotate_left; · (first | exact Nat.le_refl _ | assumption | omega | (simp; done) | (simp; omega))) | (with_reducible refine Below.alloc ?_ ?_ _; rotate_left; · (first | exact Nat.le_refl _ | assumption | omega | (simp; done) | (simp; omega))) | with_reducible refine below_ovr_of ?_ | with_reducible refine drew_below ?_ _ | with_reducible refine Below.drew ?_ | with_reducible assumption))) (by assumption)) | (refine cell_keep9 (below_ovr _ _) ?_; assumption) | (simp [go_sem]; done) | (simp [go_sem, *]; done) | (simp [go_sem]; omega))))) ((go_at_call 24; refine (cseek_any _ _ L _ _ _ _ _ _ (by (repeat (first | assumption | refine LinesAt.ovr ?_ _ | refine LinesAt.alloc ?_ _ | refine LinesAt.drewN ?_ _ | refine LinesAt.drew ?_))) (by omega)).mono ?_; rw [HF.out]; rintro e w1 ⟨rfl, hbl⟩; obtain ⟨x, rfl⟩ := ovr_of_below hbl; clear hbl))
        all_goals (
          go_wp2
          refine name_ptr 12 rfl ?_
          intro F hF
          rw [← hF]
          refine name_ptr 9 rfl ?_
          intro P hP
          rw [← hP]
          refine name_world ?_
          intro W0 hW
          have q0 : W0.cell? ⟨P, 0, none⟩ = some (.int .i64 pl) := by subst hW hP hF; simp [go_sem]
          have q1 : W0.cell? ⟨P, 1, none⟩ = some (.int .i64 pc) := by subst hW hP hF; simp [go_sem]
          have f0 : W0.cell? ⟨F, 0, none⟩ = some (.int .i64 pl) := by subst hW hP hF; simp [go_sem]
          have f1 : W0.cell? ⟨F, 1, none⟩ = some (.int .i64 A) := by subst hW hP hF; simp [go_sem]
          have f2 : W0.cell? ⟨F, 2, none⟩ = some (.int .i64 1) := by subst hW hP hF; simp [go_sem]
          have hL0 : LinesAt W0 (some ⟨b, off, none⟩) L := by rw [hW]; (repeat (first | assumption | refine LinesAt.ovr ?_ _ | refine LinesAt.alloc ?_ _ | refine LinesAt.drewN ?_ _ | refine LinesAt.drew ?_))
          have hbel : Below W.heap.size W W0 := by rw [hW]; (repeat (first | with_reducible exact Below.refl _ _ | (with_reducible refine Below.setCell ?_ ?_ _; rotate_left; · (first | exact Nat.le_refl _ | assumption | omega | (simp; done) | (simp; omega))) | (with_reducible refine Below.alloc ?_ ?_ _; rotate_left; · (first | exact Nat.le_refl _ | assumption | omega | (simp; done) | (simp; omega))) | with_reducible refine below_ovr_of ?_ | with_reducible refine drew_below ?_ _ | with_reducible refine Below.drew ?_ | with_reducible assumption))
          have hszW := hbel.size
          have lP := cell_lt9 q0
          have lF := cell_lt9 f0
          clear hW hP hF
          go_region_held3 (fun w' => P < w'.heap.size ∧ F < w'.heap.size ∧ w'.cell? ⟨P, 0, none⟩ = some (.int .i64 pl) ∧ w'.cell? ⟨P, 1, none⟩ = some (.int .i64 pc) ∧ w'.cell? ⟨F, 0, none⟩ = some (.int .i64 pl) ∧ w'.cell? ⟨F, 1, none⟩ = some (.int .i64 A) ∧ w'.cell? ⟨F, 2, none⟩ = some (.int .i64 1)) ((go_split_ands; (first | (simp [go_sem]; done) | (simp [go_sem, *]; done) | ((repeat' apply And.intro) <;> first | assumption | (refine cell_keep9 (w := W0) (by (repeat (first | with_reducible exact Below.refl _ _ | (with_reducible refine Below.setCell ?_ ?_ _; rotate_left; · (first | exact Nat.le_refl _ | assumption | omega | (simp; done) | (simp; omega))) | (with_reducible refine Below.alloc ?_ ?_ _; rotate_left; · (first | exact Nat.le_refl _ | assumption | omega | (simp; done) | (simp; omega))) | with_reducible refine below_ovr_of ?_ | with_reducible refine drew_below ?_ _ | with_reducible refine Below.drew ?_ | with_reducible assumption))) (by assumption)) | (refine cell_keep9 (below_ovr _ _) ?_; assumption) | (simp [go_sem]; done) | (simp [go_sem, *]; done) | (simp [go_sem]; omega))))) ((go_at_call 24; refine (cseek_any _ _ L _ _ _ _ _ _ (by (repeat (first | assumption | refine LinesAt.ovr ?_ _ | refine LinesAt.alloc ?_ _ | refine LinesAt.drewN ?_ _ | refine LinesAt.drew ?_))) (by omega)).mono ?_; rw [HG.out]; rintro e w1 ⟨rfl, hbl⟩; obtain ⟨x, rfl⟩ := ovr_of_below hbl; clear hbl))
          all_goals (
            go_wp2
            go_ret
            exact ⟨ret_bool (by simp; try omega), by (repeat (first | with_reducible exact Below.refl _ _ | (with_reducible refine Below.setCell ?_ ?_ _; rotate_left; · (first | exact Nat.le_refl _ | assumption | omega | (simp; done) | (simp; omega))) | (with_reducible refine Below.alloc ?_ ?_ _; rotate_left; · (first | exact Nat.le_refl _ | assumption | omega | (simp; done) | (simp; omega))) | with_reducible refine below_ovr_of ?_ | with_reducible refine drew_below ?_ _ | with_reducible refine Below.drew ?_ | with_reducible assumption))⟩))
    · have hge : (s.size : Int) ≤ (pc : Int) := by omega
      clear hz
      go_enter Try.func9, Try.ntmps9
      go_wp2_with (first | (go_at_call 23; refine (known7_any _).mono ?_; rintro e w1 ⟨rfl, hbl⟩; obtain ⟨x, rfl⟩ := ovr_of_below hbl; clear hbl) | (go_at_call 16; refine (text_any _ _ L _ (by (repeat (first | assumption | refine LinesAt.ovr ?_ _ | refine LinesAt.alloc ?_ _ | refine LinesAt.drewN ?_ _ | refine LinesAt.drew ?_)))).mono ?_; rintro e w1 ⟨rfl, rfl⟩) | (go_at_call 17; refine (seat_at _ _ L _ _ _ (by (repeat (first | assumption | refine LinesAt.ovr ?_ _ | refine LinesAt.alloc ?_ _ | refine LinesAt.drewN ?_ _ | refine LinesAt.drew ?_))) h0 hsa hsb HSLpl HSCpl).mono ?_; rintro e w1 ⟨rfl, hbl⟩; obtain ⟨x, rfl⟩ := ovr_of_below hbl; clear hbl))
      go_ret
      exact ⟨rfl, by (repeat (first | with_reducible exact Below.refl _ _ | (with_reducible refine Below.setCell ?_ ?_ _; rotate_left; · (first | exact Nat.le_refl _ | assumption | omega | (simp; done) | (simp; omega))) | (with_reducible refine Below.alloc ?_ ?_ _; rotate_left; · (first | exact Nat.le_refl _ | assumption | omega | (simp; done) | (simp; omega))) | with_reducible refine below_ovr_of ?_ | with_reducible refine drew_below ?_ _ | with_reducible refine Below.drew ?_ | with_reducible assumption))⟩
end Go.Proofs.Ytmafieomlhpdeaa
