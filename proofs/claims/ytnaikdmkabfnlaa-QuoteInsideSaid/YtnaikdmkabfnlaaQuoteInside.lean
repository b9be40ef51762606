/- The walk of the law QuoteInside. Conditions: none beyond what it says. -/
import Derived.Test.YtnaikdmkabfnlaaQuoteLaws
import Derived.Test.YtnaikdmkabfnlaaQuoteInP
import Derived.Outline
namespace Go.Proofs.Ytnaikdmkabfnlaa
open Go.RowKit

/-- How many quotes have been met. -/
def cntQ (fx fy k : Nat) : Int := (if fx < k then 1 else 0) + (if fy < k then 1 else 0)

set_option maxRecDepth 100000 in
set_option maxHeartbeats 8000000 in
theorem quoteInside_at0 (a : Option Addr) (cap : Nat) (L : List ByteArray) (sa sb sk : Int) (W : World) (hL : LinesAt W a L) (hsa : 0 ≤ sa ∧ sa ≤ 65535) (hsb : 0 ≤ sb ∧ sb ≤ 65535) (hsk : 0 ≤ sk ∧ sk ≤ 255) (hk3 : sk % 3 = 0) (hli : textB L = true) :
    Calls Try.prog 7 #[.slice a L.length cap, .int .u16 sa, .int .u16 sb, .int .u8 sk] W fun e W' => e = .returned (.bool true) ∧ Below W.heap.size W W' := by
  obtain ⟨h0, hn, htot, _⟩ := text_spec hli
  obtain ⟨pl, pc, hsl, hsc, hp⟩ := seat_facts (L := L) (x := sa) (y := sb) h0 hsa.1
  obtain ⟨p1, p2, p3, p4⟩ := plcB_spec hp
  obtain ⟨l, rfl⟩ := Int.eq_ofNat_of_zero_le p1
  obtain ⟨c, rfl⟩ := Int.eq_ofNat_of_zero_le p3
  have HSLpl := Lib.hid hsl
  have HSCpl := Lib.hid hsc
  have hl : l < L.length := by omega
  obtain ⟨b, off, s, rfl, hbb, hcell, hss, HS⟩ := line_facts' hL hl
  have hlI : (l : Int) < (L.length : Int) := by omega
  have hl0 : (0 : Int) ≤ (l : Int) := by omega
  have hst : s.size ≤ 1200 := by have := size_le_total L l hl; rw [HS.out] at this; omega
  obtain ⟨o, ho⟩ : ∃ o : Int, ((({ data := #[34, 39, 97] } : ByteArray)[0].toNat : Nat) : Int) = o := ⟨_, rfl⟩
  have ho2 : o = 34 := by rw [← ho]; rfl
  have hway : (quoteP L l c o false = noR ∧ quoteP L l c o true = noR) ∨ ∃ fx fy E F : Nat, pairQ s o c = some (fx, fy) ∧ skipF s (fy + 1) = E ∧ (if E = fy + 1 then skipB s fx else fx) = F ∧
      quoteP L l c o false = ((0, (l : Int), (fx : Int) + 1, (l : Int), (fy : Int)), true) ∧ quoteP L l c o true = ((0, (l : Int), (F : Int), (l : Int), (E : Int)), true) := by
    cases hb : byteB L l c with
    | false => exact .inl ⟨quoteP_no hb, quoteP_no hb⟩
    | true =>
      rw [quoteP_yes hb HS.out, quoteP_yes hb HS.out]
      cases hT : pairQ s o c with
      | none => exact .inl ⟨rfl, rfl⟩
      | some p => obtain ⟨fx, fy⟩ := p; exact .inr ⟨fx, fy, _, _, rfl, rfl, rfl, rfl, by rw [quoteO, if_pos rfl]⟩
  clear hsl hsc hp p1 p3 p4
  rcases hway with ⟨q1, q2⟩ | ⟨fx, fy, E, F, hq, hE, hF, q1, q2⟩
  · have HR1 : Hid (quoteP L l c o false = ((0, 0, 0, 0, 0), false)) := Lib.hid q1
    have HR2 : Hid (quoteP L l c o true = ((0, 0, 0, 0, 0), false)) := Lib.hid q2
    clear q1 q2
    rw [← ho] at HR1 HR2
    clear ho ho2 o
    go_enter Try.func7, Try.ntmps7
    go_wp2_with (first | (go_at_call 29; refine (known16_any _).mono ?_; rintro e w1 ⟨rfl, hbl⟩; obtain ⟨x, rfl⟩ := ovr_of_below hbl; clear hbl) | (go_at_call 20; refine (text_any _ _ L _ (by (repeat (first | assumption | refine LinesAt.ovr ?_ _ | refine LinesAt.alloc ?_ _ | refine LinesAt.drewN ?_ _ | refine LinesAt.drew ?_)))).mono ?_; rintro e w1 ⟨rfl, rfl⟩) | (go_at_call 22; refine (seat_at _ _ L _ _ _ (by (repeat (first | assumption | refine LinesAt.ovr ?_ _ | refine LinesAt.alloc ?_ _ | refine LinesAt.drewN ?_ _ | refine LinesAt.drew ?_))) h0 hsa hsb HSLpl HSCpl).mono ?_; rintro e w1 ⟨rfl, hbl⟩; obtain ⟨x, rfl⟩ := ovr_of_below hbl; clear hbl))
    go_at_call 34; refine (qinner_any _ _ L _ _ _ _ (by (repeat (first | assumption | refine LinesAt.ovr ?_ _ | refine LinesAt.alloc ?_ _ | refine LinesAt.drewN ?_ _ | refine LinesAt.drew ?_))) (by omega)).mono ?_; rw [HR1.out]; rintro e w1 ⟨rfl, hbl⟩; obtain ⟨y1, rfl⟩ := ovr_of_below hbl; clear hbl
    go_wp2_with fail
    go_at_call 36; refine (qaround_any _ _ L _ _ _ _ (by (repeat (first | assumption | refine LinesAt.ovr ?_ _ | refine LinesAt.alloc ?_ _ | refine LinesAt.drewN ?_ _ | refine LinesAt.drew ?_))) (by omega)).mono ?_; rw [HR2.out]; rintro e w1 ⟨rfl, hbl⟩; obtain ⟨y2, rfl⟩ := ovr_of_below hbl; clear hbl
    go_wp2
    go_ret
    exact ⟨rfl, by (repeat (first | with_reducible exact Below.refl _ _ | (with_reducible refine Below.setCell ?_ ?_ _; rotate_left; · (first | exact Nat.le_refl _ | assumption | omega | (simp; done) | (simp; omega))) | (with_reducible refine Below.alloc ?_ ?_ _; rotate_left; · (first | exact Nat.le_refl _ | assumption | omega | (simp; done) | (simp; omega))) | with_reducible refine below_ovr_of ?_ | with_reducible refine drew_below ?_ _ | with_reducible refine Below.drew ?_ | with_reducible assumption))⟩
  · obtain ⟨g1, g2, g3, g4, g5, g6, g7, g8, g9, g10⟩ := quote_bytes hq hE hF
    have HR1 := Lib.hid q1
    have HR2 := Lib.hid q2
    have G8 := Lib.hid g8
    have G9 := Lib.hid g9
    have G10 := Lib.hid g10
    have G6 := Lib.hid g6
    have G7 := Lib.hid g7
    clear q1 q2 hq hE hF g8 g9 g10 g6 g7
    have HR1' := HR1
    have HR2' := HR2
    rw [← ho] at HR1' HR2'
    have HO := Lib.hid ho
    have HO2 := Lib.hid ho2
    clear HR1 HR2 ho ho2
    have fx0 : (0 : Int) ≤ (fx : Int) := by omega
    have fx1 : (fx : Int) + 1 ≤ 2000 := by omega
    have E0 : (0 : Int) ≤ (E : Int) := by omega
    have E1 : (E : Int) ≤ 2000 := by omega
    have F0 : (0 : Int) ≤ (F : Int) := by omega
    go_enter Try.func7, Try.ntmps7
    go_wp2_with (first | (go_at_call 29; refine (known16_any _).mono ?_; rintro e w1 ⟨rfl, hbl⟩; obtain ⟨x, rfl⟩ := ovr_of_below hbl; clear hbl) | (go_at_call 20; refine (text_any _ _ L _ (by (repeat (first | assumption | refine LinesAt.ovr ?_ _ | refine LinesAt.alloc ?_ _ | refine LinesAt.drewN ?_ _ | refine LinesAt.drew ?_)))).mono ?_; rintro e w1 ⟨rfl, rfl⟩) | (go_at_call 22; refine (seat_at _ _ L _ _ _ (by (repeat (first | assumption | refine LinesAt.ovr ?_ _ | refine LinesAt.alloc ?_ _ | refine LinesAt.drewN ?_ _ | refine LinesAt.drew ?_))) h0 hsa hsb HSLpl HSCpl).mono ?_; rintro e w1 ⟨rfl, hbl⟩; obtain ⟨x, rfl⟩ := ovr_of_below hbl; clear hbl))
    go_at_call 34; refine (qinner_any _ _ L _ _ _ _ (by (repeat (first | assumption | refine LinesAt.ovr ?_ _ | refine LinesAt.alloc ?_ _ | refine LinesAt.drewN ?_ _ | refine LinesAt.drew ?_))) (by omega)).mono ?_; rw [HR1'.out]; rintro e w1 ⟨rfl, hbl⟩; obtain ⟨y1, rfl⟩ := ovr_of_below hbl; clear hbl
    go_wp2_with fail
    go_at_call 36; refine (qaround_any _ _ L _ _ _ _ (by (repeat (first | assumption | refine LinesAt.ovr ?_ _ | refine LinesAt.alloc ?_ _ | refine LinesAt.drewN ?_ _ | refine LinesAt.drew ?_))) (by omega)).mono ?_; rw [HR2'.out]; rintro e w1 ⟨rfl, hbl⟩; obtain ⟨y2, rfl⟩ := ovr_of_below hbl; clear hbl
    go_wp2
    rw [HO.out]
    refine name_ptr4 13 rfl ?_
    intro BY hBY
    rw [← hBY]
    refine name_ptr4 11 rfl ?_
    intro BX hBX
    rw [← hBX]
    refine name_ptr4 9 rfl ?_
    intro BP hBP
    rw [← hBP]
    refine name_world ?_
    intro W0 hW
    have a0 : W0.cell? ⟨BY, 2, none⟩ = some (.int .i64 F) := by subst hW hBY hBX hBP; simp [go_sem]
    have a1 : W0.cell? ⟨BY, 4, none⟩ = some (.int .i64 E) := by subst hW hBY hBX hBP; simp [go_sem]
    have b0 : W0.cell? ⟨BX, 0, none⟩ = some (.int .i64 0) := by subst hW hBY hBX hBP; simp [go_sem]
    have b1 : W0.cell? ⟨BX, 1, none⟩ = some (.int .i64 l) := by subst hW hBY hBX hBP; simp [go_sem]
    have b2 : W0.cell? ⟨BX, 2, none⟩ = some (.int .i64 ((fx : Int) + 1)) := by subst hW hBY hBX hBP; simp [go_sem]
    have b4 : W0.cell? ⟨BX, 4, none⟩ = some (.int .i64 fy) := by subst hW hBY hBX hBP; simp [go_sem]
    have c0 : W0.cell? ⟨BP, 0, none⟩ = some (.int .i64 l) := by subst hW hBY hBX hBP; simp [go_sem]
    have c1 : W0.cell? ⟨BP, 1, none⟩ = some (.int .i64 c) := by subst hW hBY hBX hBP; simp [go_sem]
    have hbel : Below W.heap.size W W0 := by subst hW hBY hBX hBP; (repeat (first | with_reducible exact Below.refl _ _ | (with_reducible refine Below.setCell ?_ ?_ _; rotate_left; · (first | exact Nat.le_refl _ | assumption | omega | (simp; done) | (simp; omega))) | (with_reducible refine Below.alloc ?_ ?_ _; rotate_left; · (first | exact Nat.le_refl _ | assumption | omega | (simp; done) | (simp; omega))) | with_reducible refine below_ovr_of ?_ | with_reducible refine drew_below ?_ _ | with_reducible refine Below.drew ?_ | with_reducible assumption))
    clear hW hBY hBX hBP hk3 HO hL hcell hbb
    go_loop [16, 17] (fun nn i => ∃ (k : Nat) (m : Int), F ≤ k ∧ k ≤ E ∧ i = .int .i64 k ∧ nn = .int .i64 m ∧ 0 ≤ m ∧ m ≤ 2 ∧ Hid (cntQ fx fy k = m)) (fun _ i => E - (intOf i).toNat)
    case atStart => exact ⟨F, 0, Nat.le_refl _, by omega, rfl, rfl, by omega, by omega, Lib.hid (by unfold cntQ; rw [if_neg (by omega), if_neg (by omega)]; rfl)⟩
    case round =>
      obtain ⟨k, m, hk1, hk2, rfl, rfl, hm1, hm2, HM⟩ := hrel
      by_cases hlt : k < E
      · have hltI : (k : Int) < (E : Int) := by omega
        have hks : k < s.size := by omega
        have hksI : (k : Int) < (s.size : Int) := by omega
        have hb := byt_at' s k hks
        rcases (by omega : k < fx ∨ k = fx ∨ (fx < k ∧ k < fy) ∨ k = fy ∨ fy < k) with h | h | ⟨h, h'⟩ | h | h
        · have hin : ¬ ((fx : Int) + 1 ≤ (k : Int)) := by omega
          have HM2 : Hid (cntQ fx fy (k + 1) = m) := Lib.hid (by rw [← HM.out]; unfold cntQ; simp only [show (fx < k + 1) = (fx < k) from propext (by omega), show (fy < k + 1) = (fy < k) from propext (by omega)])
          have hbl := G8.out k hk1 h
          rw [hb] at hbl
          clear hb
          rcases hbl with e1 | e1
          all_goals (
            have e2 : ((s[k].toNat : Int) == o) = false := by rw [e1, HO2.out]; rfl
            go_wp2
            go_round
            case rel => exact ⟨k + 1, m, by omega, by omega, by go_num, by go_num, by omega, by omega, HM2⟩
            case measure => simp [intOf]; omega)
        · have e2 : ((s[k].toNat : Int) == o) = true := by rw [beq_iff_eq, ← hb, h]; exact G6.out
          have hm0 : m = 0 := by rw [← HM.out]; unfold cntQ; rw [if_neg (by omega), if_neg (by omega)]; rfl
          have HM2 : Hid (cntQ fx fy (k + 1) = m + 1) := Lib.hid (by rw [hm0]; unfold cntQ; rw [if_pos (by omega), if_neg (by omega)]; rfl)
          have hm3 : m ≤ 1 := by omega
          clear hb h hm0
          go_wp2
          go_round
          case rel => exact ⟨k + 1, m + 1, by omega, by omega, by go_num, by go_num, by omega, by omega, HM2⟩
          case measure => simp [intOf]; omega
        · have e2 : ((s[k].toNat : Int) == o) = false := by rw [beq_eq_false_iff_ne, ← hb]; exact G9.out k h h'
          have hin : (fx : Int) + 1 ≤ (k : Int) := by omega
          have hin2 : (k : Int) < (fy : Int) := by omega
          have HM2 : Hid (cntQ fx fy (k + 1) = m) := Lib.hid (by rw [← HM.out]; unfold cntQ; simp only [show (fx < k + 1) = (fx < k) from propext (by omega), show (fy < k + 1) = (fy < k) from propext (by omega)])
          clear hb
          go_wp2
          go_round
          case rel => exact ⟨k + 1, m, by omega, by omega, by go_num, by go_num, by omega, by omega, HM2⟩
          case measure => simp [intOf]; omega
        · have e2 : ((s[k].toNat : Int) == o) = true := by rw [beq_iff_eq, ← hb, h]; exact G7.out
          have hm0 : m = 1 := by rw [← HM.out]; unfold cntQ; rw [if_pos (by omega), if_neg (by omega)]; rfl
          have HM2 : Hid (cntQ fx fy (k + 1) = m + 1) := Lib.hid (by rw [hm0]; unfold cntQ; rw [if_pos (by omega), if_pos (by omega)])
          have hm3 : m ≤ 1 := by omega
          clear hb h hm0
          go_wp2
          go_round
          case rel => exact ⟨k + 1, m + 1, by omega, by omega, by go_num, by go_num, by omega, by omega, HM2⟩
          case measure => simp [intOf]; omega
        · have hin : ¬ ((k : Int) < (fy : Int)) := by omega
          have hin2 : (fx : Int) + 1 ≤ (k : Int) := by omega
          have HM2 : Hid (cntQ fx fy (k + 1) = m) := Lib.hid (by rw [← HM.out]; unfold cntQ; simp only [show (fx < k + 1) = (fx < k) from propext (by omega), show (fy < k + 1) = (fy < k) from propext (by omega)])
          have hbl := G10.out k h hlt
          rw [hb] at hbl
          clear hb
          rcases hbl with e1 | e1
          all_goals (
            have e2 : ((s[k].toNat : Int) == o) = false := by rw [e1, HO2.out]; rfl
            go_wp2
            go_round
            case rel => exact ⟨k + 1, m, by omega, by omega, by go_num, by go_num, by omega, by omega, HM2⟩
            case measure => simp [intOf]; omega)
      · have hge : ¬ (k : Int) < (E : Int) := by omega
        have hm0 : m = 2 := by rw [← HM.out]; unfold cntQ; rw [if_pos (by omega), if_pos (by omega)]; rfl
        subst hm0
        have hfxs : fx < s.size := by omega
        have hfys : fy < s.size := by omega
        have e6 : ((s[fx].toNat : Int) == o) = true := by rw [beq_iff_eq, ← byt_at' s fx hfxs]; exact G6.out
        have e7 : ((s[fy].toNat : Int) == o) = true := by rw [beq_iff_eq, ← byt_at' s fy hfys]; exact G7.out
        have j1 : (fx : Int) < (s.size : Int) := by omega
        have j2 : (fy : Int) < (s.size : Int) := by omega
        have j3 : (0 : Int) < (fx : Int) + 1 := by omega
        go_wp2
        go_ret
        exact ⟨ret_bool (by simp [go_sem]), hbel⟩
set_option maxRecDepth 100000 in
set_option maxHeartbeats 8000000 in
theorem quoteInside_at1 (a : Option Addr) (cap : Nat) (L : List ByteArray) (sa sb sk : Int) (W : World) (hL : LinesAt W a L) (hsa : 0 ≤ sa ∧ sa ≤ 65535) (hsb : 0 ≤ sb ∧ sb ≤ 65535) (hsk : 0 ≤ sk ∧ sk ≤ 255) (hk3 : sk % 3 = 1) (hli : textB L = true) :
    Calls Try.prog 7 #[.slice a L.length cap, .int .u16 sa, .int .u16 sb, .int .u8 sk] W fun e W' => e = .returned (.bool true) ∧ Below W.heap.size W W' := by
  obtain ⟨h0, hn, htot, _⟩ := text_spec hli
  obtain ⟨pl, pc, hsl, hsc, hp⟩ := seat_facts (L := L) (x := sa) (y := sb) h0 hsa.1
  obtain ⟨p1, p2, p3, p4⟩ := plcB_spec hp
  obtain ⟨l, rfl⟩ := Int.eq_ofNat_of_zero_le p1
  obtain ⟨c, rfl⟩ := Int.eq_ofNat_of_zero_le p3
  have HSLpl := Lib.hid hsl
  have HSCpl := Lib.hid hsc
  have hl : l < L.length := by omega
  obtain ⟨b, off, s, rfl, hbb, hcell, hss, HS⟩ := line_facts' hL hl
  have hlI : (l : Int) < (L.length : Int) := by omega
  have hl0 : (0 : Int) ≤ (l : Int) := by omega
  have hst : s.size ≤ 1200 := by have := size_le_total L l hl; rw [HS.out] at this; omega
  obtain ⟨o, ho⟩ : ∃ o : Int, ((({ data := #[34, 39, 97] } : ByteArray)[1].toNat : Nat) : Int) = o := ⟨_, rfl⟩
  have ho2 : o = 39 := by rw [← ho]; rfl
  have hway : (quoteP L l c o false = noR ∧ quoteP L l c o true = noR) ∨ ∃ fx fy E F : Nat, pairQ s o c = some (fx, fy) ∧ skipF s (fy + 1) = E ∧ (if E = fy + 1 then skipB s fx else fx) = F ∧
      quoteP L l c o false = ((0, (l : Int), (fx : Int) + 1, (l : Int), (fy : Int)), true) ∧ quoteP L l c o true = ((0, (l : Int), (F : Int), (l : Int), (E : Int)), true) := by
    cases hb : byteB L l c with
    | false => exact .inl ⟨quoteP_no hb, quoteP_no hb⟩
    | true =>
      rw [quoteP_yes hb HS.out, quoteP_yes hb HS.out]
      cases hT : pairQ s o c with
      | none => exact .inl ⟨rfl, rfl⟩
      | some p => obtain ⟨fx, fy⟩ := p; exact .inr ⟨fx, fy, _, _, rfl, rfl, rfl, rfl, by rw [quoteO, if_pos rfl]⟩
  clear hsl hsc hp p1 p3 p4
  rcases hway with ⟨q1, q2⟩ | ⟨fx, fy, E, F, hq, hE, hF, q1, q2⟩
  · have HR1 : Hid (quoteP L l c o false = ((0, 0, 0, 0, 0), false)) := Lib.hid q1
    have HR2 : Hid (quoteP L l c o true = ((0, 0, 0, 0, 0), false)) := Lib.hid q2
    clear q1 q2
    rw [← ho] at HR1 HR2
    clear ho ho2 o
    go_enter Try.func7, Try.ntmps7
    go_wp2_with (first | (go_at_call 29; refine (known16_any _).mono ?_; rintro e w1 ⟨rfl, hbl⟩; obtain ⟨x, rfl⟩ := ovr_of_below hbl; clear hbl) | (go_at_call 20; refine (text_any _ _ L _ (by (repeat (first | assumption | refine LinesAt.ovr ?_ _ | refine LinesAt.alloc ?_ _ | refine LinesAt.drewN ?_ _ | refine LinesAt.drew ?_)))).mono ?_; rintro e w1 ⟨rfl, rfl⟩) | (go_at_call 22; refine (seat_at _ _ L _ _ _ (by (repeat (first | assumption | refine LinesAt.ovr ?_ _ | refine LinesAt.alloc ?_ _ | refine LinesAt.drewN ?_ _ | refine LinesAt.drew ?_))) h0 hsa hsb HSLpl HSCpl).mono ?_; rintro e w1 ⟨rfl, hbl⟩; obtain ⟨x, rfl⟩ := ovr_of_below hbl; clear hbl))
    go_at_call 34; refine (qinner_any _ _ L _ _ _ _ (by (repeat (first | assumption | refine LinesAt.ovr ?_ _ | refine LinesAt.alloc ?_ _ | refine LinesAt.drewN ?_ _ | refine LinesAt.drew ?_))) (by omega)).mono ?_; rw [HR1.out]; rintro e w1 ⟨rfl, hbl⟩; obtain ⟨y1, rfl⟩ := ovr_of_below hbl; clear hbl
    go_wp2_with fail
    go_at_call 36; refine (qaround_any _ _ L _ _ _ _ (by (repeat (first | assumption | refine LinesAt.ovr ?_ _ | refine LinesAt.alloc ?_ _ | refine LinesAt.drewN ?_ _ | refine LinesAt.drew ?_))) (by omega)).mono ?_; rw [HR2.out]; rintro e w1 ⟨rfl, hbl⟩; obtain ⟨y2, rfl⟩ := ovr_of_below hbl; clear hbl
    go_wp2
    go_ret
    exact ⟨rfl, by (repeat (first | with_reducible exact Below.refl _ _ | (with_reducible refine Below.setCell ?_ ?_ _; rotate_left; · (first | exact Nat.le_refl _ | assumption | omega | (simp; done) | (simp; omega))) | (with_reducible refine Below.alloc ?_ ?_ _; rotate_left; · (first | exact Nat.le_refl _ | assumption | omega | (simp; done) | (simp; omega))) | with_reducible refine below_ovr_of ?_ | with_reducible refine drew_below ?_ _ | with_reducible refine Below.drew ?_ | with_reducible assumption))⟩
  · obtain ⟨g1, g2, g3, g4, g5, g6, g7, g8, g9, g10⟩ := quote_bytes hq hE hF
    have HR1 := Lib.hid q1
    have HR2 := Lib.hid q2
    have G8 := Lib.hid g8
    have G9 := Lib.hid g9
    have G10 := Lib.hid g10
    have G6 := Lib.hid g6
    have G7 := Lib.hid g7
    clear q1 q2 hq hE hF g8 g9 g10 g6 g7
    have HR1' := HR1
    have HR2' := HR2
    rw [← ho] at HR1' HR2'
    have HO := Lib.hid ho
    have HO2 := Lib.hid ho2
    clear HR1 HR2 ho ho2
    have fx0 : (0 : Int) ≤ (fx : Int) := by omega
    have fx1 : (fx : Int) + 1 ≤ 2000 := by omega
    have E0 : (0 : Int) ≤ (E : Int) := by omega
    have E1 : (E : Int) ≤ 2000 := by omega
    have F0 : (0 : Int) ≤ (F : Int) := by omega
    go_enter Try.func7, Try.ntmps7
    go_wp2_with (first | (go_at_call 29; refine (known16_any _).mono ?_; rintro e w1 ⟨rfl, hbl⟩; obtain ⟨x, rfl⟩ := ovr_of_below hbl; clear hbl) | (go_at_call 20; refine (text_any _ _ L _ (by (repeat (first | assumption | refine LinesAt.ovr ?_ _ | refine LinesAt.alloc ?_ _ | refine LinesAt.drewN ?_ _ | refine LinesAt.drew ?_)))).mono ?_; rintro e w1 ⟨rfl, rfl⟩) | (go_at_call 22; refine (seat_at _ _ L _ _ _ (by (repeat (first | assumption | refine LinesAt.ovr ?_ _ | refine LinesAt.alloc ?_ _ | refine LinesAt.drewN ?_ _ | refine LinesAt.drew ?_))) h0 hsa hsb HSLpl HSCpl).mono ?_; rintro e w1 ⟨rfl, hbl⟩; obtain ⟨x, rfl⟩ := ovr_of_below hbl; clear hbl))
    go_at_call 34; refine (qinner_any _ _ L _ _ _ _ (by (repeat (first | assumption | refine LinesAt.ovr ?_ _ | refine LinesAt.alloc ?_ _ | refine LinesAt.drewN ?_ _ | refine LinesAt.drew ?_))) (by omega)).mono ?_; rw [HR1'.out]; rintro e w1 ⟨rfl, hbl⟩; obtain ⟨y1, rfl⟩ := ovr_of_below hbl; clear hbl
    go_wp2_with fail
    go_at_call 36; refine (qaround_any _ _ L _ _ _ _ (by (repeat (first | assumption | refine LinesAt.ovr ?_ _ | refine LinesAt.alloc ?_ _ | refine LinesAt.drewN ?_ _ | refine LinesAt.drew ?_))) (by omega)).mono ?_; rw [HR2'.out]; rintro e w1 ⟨rfl, hbl⟩; obtain ⟨y2, rfl⟩ := ovr_of_below hbl; clear hbl
    go_wp2
    rw [HO.out]
    refine name_ptr4 13 rfl ?_
    intro BY hBY
    rw [← hBY]
    refine name_ptr4 11 rfl ?_
    intro BX hBX
    rw [← hBX]
    refine name_ptr4 9 rfl ?_
    intro BP hBP
    rw [← hBP]
    refine name_world ?_
    intro W0 hW
    have a0 : W0.cell? ⟨BY, 2, none⟩ = some (.int .i64 F) := by subst hW hBY hBX hBP; simp [go_sem]
    have a1 : W0.cell? ⟨BY, 4, none⟩ = some (.int .i64 E) := by subst hW hBY hBX hBP; simp [go_sem]
    have b0 : W0.cell? ⟨BX, 0, none⟩ = some (.int .i64 0) := by subst hW hBY hBX hBP; simp [go_sem]
    have b1 : W0.cell? ⟨BX, 1, none⟩ = some (.int .i64 l) := by subst hW hBY hBX hBP; simp [go_sem]
    have b2 : W0.cell? ⟨BX, 2, none⟩ = some (.int .i64 ((fx : Int) + 1)) := by subst hW hBY hBX hBP; simp [go_sem]
    have b4 : W0.cell? ⟨BX, 4, none⟩ = some (.int .i64 fy) := by subst hW hBY hBX hBP; simp [go_sem]
    have c0 : W0.cell? ⟨BP, 0, none⟩ = some (.int .i64 l) := by subst hW hBY hBX hBP; simp [go_sem]
    have c1 : W0.cell? ⟨BP, 1, none⟩ = some (.int .i64 c) := by subst hW hBY hBX hBP; simp [go_sem]
    have hbel : Below W.heap.size W W0 := by subst hW hBY hBX hBP; (repeat (first | with_reducible exact Below.refl _ _ | (with_reducible refine Below.setCell ?_ ?_ _; rotate_left; · (first | exact Nat.le_refl _ | assumption | omega | (simp; done) | (simp; omega))) | (with_reducible refine Below.alloc ?_ ?_ _; rotate_left; · (first | exact Nat.le_refl _ | assumption | omega | (simp; done) | (simp; omega))) | with_reducible refine below_ovr_of ?_ | with_reducible refine drew_below ?_ _ | with_reducible refine Below.drew ?_ | with_reducible assumption))
    clear hW hBY hBX hBP hk3 HO hL hcell hbb
    go_loop [16, 17] (fun nn i => ∃ (k : Nat) (m : Int), F ≤ k ∧ k ≤ E ∧ i = .int .i64 k ∧ nn = .int .i64 m ∧ 0 ≤ m ∧ m ≤ 2 ∧ Hid (cntQ fx fy k = m)) (fun _ i => E - (intOf i).toNat)
    case atStart => exact ⟨F, 0, Nat.le_refl _, by omega, rfl, rfl, by omega, by omega, Lib.hid (by unfold cntQ; rw [if_neg (by omega), if_neg (by omega)]; rfl)⟩
    case round =>
      obtain ⟨k, m, hk1, hk2, rfl, rfl, hm1, hm2, HM⟩ := hrel
      by_cases hlt : k < E
      · have hltI : (k : Int) < (E : Int) := by omega
        have hks : k < s.size := by omega
        have hksI : (k : Int) < (s.size : Int) := by omega
        have hb := byt_at' s k hks
        rcases (by omega : k < fx ∨ k = fx ∨ (fx < k ∧ k < fy) ∨ k = fy ∨ fy < k) with h | h | ⟨h, h'⟩ | h | h
        · have hin : ¬ ((fx : Int) + 1 ≤ (k : Int)) := by omega
          have HM2 : Hid (cntQ fx fy (k + 1) = m) := Lib.hid (by rw [← HM.out]; unfold cntQ; simp only [show (fx < k + 1) = (fx < k) from propext (by omega), show (fy < k + 1) = (fy < k) from propext (by omega)])
          have hbl := G8.out k hk1 h
          rw [hb] at hbl
          clear hb
          rcases hbl with e1 | e1
          all_goals (
            have e2 : ((s[k].toNat : Int) == o) = false := by rw [e1, HO2.out]; rfl
            go_wp2
            go_round
            case rel => exact ⟨k + 1, m, by omega, by omega, by go_num, by go_num, by omega, by omega, HM2⟩
            case measure => simp [intOf]; omega)
        · have e2 : ((s[k].toNat : Int) == o) = true := by rw [beq_iff_eq, ← hb, h]; exact G6.out
          have hm0 : m = 0 := by rw [← HM.out]; unfold cntQ; rw [if_neg (by omega), if_neg (by omega)]; rfl
          have HM2 : Hid (cntQ fx fy (k + 1) = m + 1) := Lib.hid (by rw [hm0]; unfold cntQ; rw [if_pos (by omega), if_neg (by omega)]; rfl)
          have hm3 : m ≤ 1 := by omega
          clear hb h hm0
          go_wp2
          go_round
          case rel => exact ⟨k + 1, m + 1, by omega, by omega, by go_num, by go_num, by omega, by omega, HM2⟩
          case measure => simp [intOf]; omega
        · have e2 : ((s[k].toNat : Int) == o) = false := by rw [beq_eq_false_iff_ne, ← hb]; exact G9.out k h h'
          have hin : (fx : Int) + 1 ≤ (k : Int) := by omega
          have hin2 : (k : Int) < (fy : Int) := by omega
          have HM2 : Hid (cntQ fx fy (k + 1) = m) := Lib.hid (by rw [← HM.out]; unfold cntQ; simp only [show (fx < k + 1) = (fx < k) from propext (by omega), show (fy < k + 1) = (fy < k) from propext (by omega)])
          clear hb
          go_wp2
          go_round
          case rel => exact ⟨k + 1, m, by omega, by omega, by go_num, by go_num, by omega, by omega, HM2⟩
          case measure => simp [intOf]; omega
        · have e2 : ((s[k].toNat : Int) == o) = true := by rw [beq_iff_eq, ← hb, h]; exact G7.out
          have hm0 : m = 1 := by rw [← HM.out]; unfold cntQ; rw [if_pos (by omega), if_neg (by omega)]; rfl
          have HM2 : Hid (cntQ fx fy (k + 1) = m + 1) := Lib.hid (by rw [hm0]; unfold cntQ; rw [if_pos (by omega), if_pos (by omega)])
          have hm3 : m ≤ 1 := by omega
          clear hb h hm0
          go_wp2
          go_round
          case rel => exact ⟨k + 1, m + 1, by omega, by omega, by go_num, by go_num, by omega, by omega, HM2⟩
          case measure => simp [intOf]; omega
        · have hin : ¬ ((k : Int) < (fy : Int)) := by omega
          have hin2 : (fx : Int) + 1 ≤ (k : Int) := by omega
          have HM2 : Hid (cntQ fx fy (k + 1) = m) := Lib.hid (by rw [← HM.out]; unfold cntQ; simp only [show (fx < k + 1) = (fx < k) from propext (by omega), show (fy < k + 1) = (fy < k) from propext (by omega)])
          have hbl := G10.out k h hlt
          rw [hb] at hbl
          clear hb
          rcases hbl with e1 | e1
          all_goals (
            have e2 : ((s[k].toNat : Int) == o) = false := by rw [e1, HO2.out]; rfl
            go_wp2
            go_round
            case rel => exact ⟨k + 1, m, by omega, by omega, by go_num, by go_num, by omega, by omega, HM2⟩
            case measure => simp [intOf]; omega)
      · have hge : ¬ (k : Int) < (E : Int) := by omega
        have hm0 : m = 2 := by rw [← HM.out]; unfold cntQ; rw [if_pos (by omega), if_pos (by omega)]; rfl
        subst hm0
        have hfxs : fx < s.size := by omega
        have hfys : fy < s.size := by omega
        have e6 : ((s[fx].toNat : Int) == o) = true := by rw [beq_iff_eq, ← byt_at' s fx hfxs]; exact G6.out
        have e7 : ((s[fy].toNat : Int) == o) = true := by rw [beq_iff_eq, ← byt_at' s fy hfys]; exact G7.out
        have j1 : (fx : Int) < (s.size : Int) := by omega
        have j2 : (fy : Int) < (s.size : Int) := by omega
        have j3 : (0 : Int) < (fx : Int) + 1 := by omega
        go_wp2
        go_ret
        exact ⟨ret_bool (by simp [go_sem]), hbel⟩
set_option maxRecDepth 100000 in
set_option maxHeartbeats 8000000 in
theorem quoteInside_at2 (a : Option Addr) (cap : Nat) (L : List ByteArray) (sa sb sk : Int) (W : World) (hL : LinesAt W a L) (hsa : 0 ≤ sa ∧ sa ≤ 65535) (hsb : 0 ≤ sb ∧ sb ≤ 65535) (hsk : 0 ≤ sk ∧ sk ≤ 255) (hk3 : sk % 3 = 2) (hli : textB L = true) :
    Calls Try.prog 7 #[.slice a L.length cap, .int .u16 sa, .int .u16 sb, .int .u8 sk] W fun e W' => e = .returned (.bool true) ∧ Below W.heap.size W W' := by
  obtain ⟨h0, hn, htot, _⟩ := text_spec hli
  obtain ⟨pl, pc, hsl, hsc, hp⟩ := seat_facts (L := L) (x := sa) (y := sb) h0 hsa.1
  obtain ⟨p1, p2, p3, p4⟩ := plcB_spec hp
  obtain ⟨l, rfl⟩ := Int.eq_ofNat_of_zero_le p1
  obtain ⟨c, rfl⟩ := Int.eq_ofNat_of_zero_le p3
  have HSLpl := Lib.hid hsl
  have HSCpl := Lib.hid hsc
  have hl : l < L.length := by omega
  obtain ⟨b, off, s, rfl, hbb, hcell, hss, HS⟩ := line_facts' hL hl
  have hlI : (l : Int) < (L.length : Int) := by omega
  have hl0 : (0 : Int) ≤ (l : Int) := by omega
  have hst : s.size ≤ 1200 := by have := size_le_total L l hl; rw [HS.out] at this; omega
  obtain ⟨o, ho⟩ : ∃ o : Int, ((({ data := #[34, 39, 97] } : ByteArray)[2].toNat : Nat) : Int) = o := ⟨_, rfl⟩
  have ho2 : o = 97 := by rw [← ho]; rfl
  have hway : (quoteP L l c o false = noR ∧ quoteP L l c o true = noR) ∨ ∃ fx fy E F : Nat, pairQ s o c = some (fx, fy) ∧ skipF s (fy + 1) = E ∧ (if E = fy + 1 then skipB s fx else fx) = F ∧
      quoteP L l c o false = ((0, (l : Int), (fx : Int) + 1, (l : Int), (fy : Int)), true) ∧ quoteP L l c o true = ((0, (l : Int), (F : Int), (l : Int), (E : Int)), true) := by
    cases hb : byteB L l c with
    | false => exact .inl ⟨quoteP_no hb, quoteP_no hb⟩
    | true =>
      rw [quoteP_yes hb HS.out, quoteP_yes hb HS.out]
      cases hT : pairQ s o c with
      | none => exact .inl ⟨rfl, rfl⟩
      | some p => obtain ⟨fx, fy⟩ := p; exact .inr ⟨fx, fy, _, _, rfl, rfl, rfl, rfl, by rw [quoteO, if_pos rfl]⟩
  clear hsl hsc hp p1 p3 p4
  rcases hway with ⟨q1, q2⟩ | ⟨fx, fy, E, F, hq, hE, hF, q1, q2⟩
  · have HR1 : Hid (quoteP L l c o false = ((0, 0, 0, 0, 0), false)) := Lib.hid q1
    have HR2 : Hid (quoteP L l c o true = ((0, 0, 0, 0, 0), false)) := Lib.hid q2
    clear q1 q2
    rw [← ho] at HR1 HR2
    clear ho ho2 o
    go_enter Try.func7, Try.ntmps7
    go_wp2_with (first | (go_at_call 29; refine (known16_any _).mono ?_; rintro e w1 ⟨rfl, hbl⟩; obtain ⟨x, rfl⟩ := ovr_of_below hbl; clear hbl) | (go_at_call 20; refine (text_any _ _ L _ (by (repeat (first | assumption | refine LinesAt.ovr ?_ _ | refine LinesAt.alloc ?_ _ | refine LinesAt.drewN ?_ _ | refine LinesAt.drew ?_)))).mono ?_; rintro e w1 ⟨rfl, rfl⟩) | (go_at_call 22; refine (seat_at _ _ L _ _ _ (by (repeat (first | assumption | refine LinesAt.ovr ?_ _ | refine LinesAt.alloc ?_ _ | refine LinesAt.drewN ?_ _ | refine LinesAt.drew ?_))) h0 hsa hsb HSLpl HSCpl).mono ?_; rintro e w1 ⟨rfl, hbl⟩; obtain ⟨x, rfl⟩ := ovr_of_below hbl; clear hbl))
    go_at_call 34; refine (qinner_any _ _ L _ _ _ _ (by (repeat (first | assumption | refine LinesAt.ovr ?_ _ | refine LinesAt.alloc ?_ _ | refine LinesAt.drewN ?_ _ | refine LinesAt.drew ?_))) (by omega)).mono ?_; rw [HR1.out]; rintro e w1 ⟨rfl, hbl⟩; obtain ⟨y1, rfl⟩ := ovr_of_below hbl; clear hbl
    go_wp2_with fail
    go_at_call 36; refine (qaround_any _ _ L _ _ _ _ (by (repeat (first | assumption | refine LinesAt.ovr ?_ _ | refine LinesAt.alloc ?_ _ | refine LinesAt.drewN ?_ _ | refine LinesAt.drew ?_))) (by omega)).mono ?_; rw [HR2.out]; rintro e w1 ⟨rfl, hbl⟩; obtain ⟨y2, rfl⟩ := ovr_of_below hbl; clear hbl
    go_wp2
    go_ret
    exact ⟨rfl, by (repeat (first | with_reducible exact Below.refl _ _ | (with_reducible refine Below.setCell ?_ ?_ _; rotate_left; · (first | exact Nat.le_refl _ | assumption | omega | (simp; done) | (simp; omega))) | (with_reducible refine Below.alloc ?_ ?_ _; rotate_left; · (first | exact Nat.le_refl _ | assumption | omega | (simp; done) | (simp; omega))) | with_reducible refine below_ovr_of ?_ | with_reducible refine drew_below ?_ _ | with_reducible refine Below.drew ?_ | with_reducible assumption))⟩
  · obtain ⟨g1, g2, g3, g4, g5, g6, g7, g8, g9, g10⟩ := quote_bytes hq hE hF
    have HR1 := Lib.hid q1
    have HR2 := Lib.hid q2
    have G8 := Lib.hid g8
    have G9 := Lib.hid g9
    have G10 := Lib.hid g10
    have G6 := Lib.hid g6
    have G7 := Lib.hid g7
    clear q1 q2 hq hE hF g8 g9 g10 g6 g7
    have HR1' := HR1
    have HR2' := HR2
    rw [← ho] at HR1' HR2'
    have HO := Lib.hid ho
    have HO2 := Lib.hid ho2
    clear HR1 HR2 ho ho2
    have fx0 : (0 : Int) ≤ (fx : Int) := by omega
    have fx1 : (fx : Int) + 1 ≤ 2000 := by omega
    have E0 : (0 : Int) ≤ (E : Int) := by omega
    have E1 : (E : Int) ≤ 2000 := by omega
    have F0 : (0 : Int) ≤ (F : Int) := by omega
    go_enter Try.func7, Try.ntmps7
    go_wp2_with (first | (go_at_call 29; refine (known16_any _).mono ?_; rintro e w1 ⟨rfl, hbl⟩; obtain ⟨x, rfl⟩ := ovr_of_below hbl; clear hbl) | (go_at_call 20; refine (text_any _ _ L _ (by (repeat (first | assumption | refine LinesAt.ovr ?_ _ | refine LinesAt.alloc ?_ _ | refine LinesAt.drewN ?_ _ | refine LinesAt.drew ?_)))).mono ?_; rintro e w1 ⟨rfl, rfl⟩) | (go_at_call 22; refine (seat_at _ _ L _ _ _ (by (repeat (first | assumption | refine LinesAt.ovr ?_ _ | refine LinesAt.alloc ?_ _ | refine LinesAt.drewN ?_ _ | refine LinesAt.drew ?_))) h0 hsa hsb HSLpl HSCpl).mono ?_; rintro e w1 ⟨rfl, hbl⟩; obtain ⟨x, rfl⟩ := ovr_of_below hbl; clear hbl))
    go_at_call 34; refine (qinner_any _ _ L _ _ _ _ (by (repeat (first | assumption | refine LinesAt.ovr ?_ _ | refine LinesAt.alloc ?_ _ | refine LinesAt.drewN ?_ _ | refine LinesAt.drew ?_))) (by omega)).mono ?_; rw [HR1'.out]; rintro e w1 ⟨rfl, hbl⟩; obtain ⟨y1, rfl⟩ := ovr_of_below hbl; clear hbl
    go_wp2_with fail
    go_at_call 36; refine (qaround_any _ _ L _ _ _ _ (by (repeat (first | assumption | refine LinesAt.ovr ?_ _ | refine LinesAt.alloc ?_ _ | refine LinesAt.drewN ?_ _ | refine LinesAt.drew ?_))) (by omega)).mono ?_; rw [HR2'.out]; rintro e w1 ⟨rfl, hbl⟩; obtain ⟨y2, rfl⟩ := ovr_of_below hbl; clear hbl
    go_wp2
    rw [HO.out]
    refine name_ptr4 13 rfl ?_
    intro BY hBY
    rw [← hBY]
    refine name_ptr4 11 rfl ?_
    intro BX hBX
    rw [← hBX]
    refine name_ptr4 9 rfl ?_
    intro BP hBP
    rw [← hBP]
    refine name_world ?_
    intro W0 hW
    have a0 : W0.cell? ⟨BY, 2, none⟩ = some (.int .i64 F) := by subst hW hBY hBX hBP; simp [go_sem]
    have a1 : W0.cell? ⟨BY, 4, none⟩ = some (.int .i64 E) := by subst hW hBY hBX hBP; simp [go_sem]
    have b0 : W0.cell? ⟨BX, 0, none⟩ = some (.int .i64 0) := by subst hW hBY hBX hBP; simp [go_sem]
    have b1 : W0.cell? ⟨BX, 1, none⟩ = some (.int .i64 l) := by subst hW hBY hBX hBP; simp [go_sem]
    have b2 : W0.cell? ⟨BX, 2, none⟩ = some (.int .i64 ((fx : Int) + 1)) := by subst hW hBY hBX hBP; simp [go_sem]
    have b4 : W0.cell? ⟨BX, 4, none⟩ = some (.int .i64 fy) := by subst hW hBY hBX hBP; simp [go_sem]
    have c0 : W0.cell? ⟨BP, 0, none⟩ = some (.int .i64 l) := by subst hW hBY hBX hBP; simp [go_sem]
    have c1 : W0.cell? ⟨BP, 1, none⟩ = some (.int .i64 c) := by subst hW hBY hBX hBP; simp [go_sem]
    have hbel : Below W.heap.size W W0 := by subst hW hBY hBX hBP; (repeat (first | with_reducible exact Below.refl _ _ | (with_reducible refine Below.setCell ?_ ?_ _; rotate_left; · (first | exact Nat.le_refl _ | assumption | omega | (simp; done) | (simp; omega))) | (with_reducible refine Below.alloc ?_ ?_ _; rotate_left; · (first | exact Nat.le_refl _ | assumption | omega | (simp; done) | (simp; omega))) | with_reducible refine below_ovr_of ?_ | with_reducible refine drew_below ?_ _ | with_reducible refine Below.drew ?_ | with_reducible assumption))
    clear hW hBY hBX hBP hk3 HO hL hcell hbb
    go_loop [16, 17] (fun nn i => ∃ (k : Nat) (m : Int), F ≤ k ∧ k ≤ E ∧ i = .int .i64 k ∧ nn = .int .i64 m ∧ 0 ≤ m ∧ m ≤ 2 ∧ Hid (cntQ fx fy k = m)) (fun _ i => E - (intOf i).toNat)
    case atStart => exact ⟨F, 0, Nat.le_refl _, by omega, rfl, rfl, by omega, by omega, Lib.hid (by unfold cntQ; rw [if_neg (by omega), if_neg (by omega)]; rfl)⟩
    case round =>
      obtain ⟨k, m, hk1, hk2, rfl, rfl, hm1, hm2, HM⟩ := hrel
      by_cases hlt : k < E
      · have hltI : (k : Int) < (E : Int) := by omega
        have hks : k < s.size := by omega
        have hksI : (k : Int) < (s.size : Int) := by omega
        have hb := byt_at' s k hks
        rcases (by omega : k < fx ∨ k = fx ∨ (fx < k ∧ k < fy) ∨ k = fy ∨ fy < k) with h | h | ⟨h, h'⟩ | h | h
        · have hin : ¬ ((fx : Int) + 1 ≤ (k : Int)) := by omega
          have HM2 : Hid (cntQ fx fy (k + 1) = m) := Lib.hid (by rw [← HM.out]; unfold cntQ; simp only [show (fx < k + 1) = (fx < k) from propext (by omega), show (fy < k + 1) = (fy < k) from propext (by omega)])
          have hbl := G8.out k hk1 h
          rw [hb] at hbl
          clear hb
          rcases hbl with e1 | e1
          all_goals (
            have e2 : ((s[k].toNat : Int) == o) = false := by rw [e1, HO2.out]; rfl
            go_wp2
            go_round
            case rel => exact ⟨k + 1, m, by omega, by omega, by go_num, by go_num, by omega, by omega, HM2⟩
            case measure => simp [intOf]; omega)
        · have e2 : ((s[k].toNat : Int) == o) = true := by rw [beq_iff_eq, ← hb, h]; exact G6.out
          have hm0 : m = 0 := by rw [← HM.out]; unfold cntQ; rw [if_neg (by omega), if_neg (by omega)]; rfl
          have HM2 : Hid (cntQ fx fy (k + 1) = m + 1) := Lib.hid (by rw [hm0]; unfold cntQ; rw [if_pos (by omega), if_neg (by omega)]; rfl)
          have hm3 : m ≤ 1 := by omega
          clear hb h hm0
          go_wp2
          go_round
          case rel => exact ⟨k + 1, m + 1, by omega, by omega, by go_num, by go_num, by omega, by omega, HM2⟩
          case measure => simp [intOf]; omega
        · have e2 : ((s[k].toNat : Int) == o) = false := by rw [beq_eq_false_iff_ne, ← hb]; exact G9.out k h h'
          have hin : (fx : Int) + 1 ≤ (k : Int) := by omega
          have hin2 : (k : Int) < (fy : Int) := by omega
          have HM2 : Hid (cntQ fx fy (k + 1) = m) := Lib.hid (by rw [← HM.out]; unfold cntQ; simp only [show (fx < k + 1) = (fx < k) from propext (by omega), show (fy < k + 1) = (fy < k) from propext (by omega)])
          clear hb
          go_wp2
          go_round
          case rel => exact ⟨k + 1, m, by omega, by omega, by go_num, by go_num, by omega, by omega, HM2⟩
          case measure => simp [intOf]; omega
        · have e2 : ((s[k].toNat : Int) == o) = true := by rw [beq_iff_eq, ← hb, h]; exact G7.out
          have hm0 : m = 1 := by rw [← HM.out]; unfold cntQ; rw [if_pos (by omega), if_neg (by omega)]; rfl
          have HM2 : Hid (cntQ fx fy (k + 1) = m + 1) := Lib.hid (by rw [hm0]; unfold cntQ; rw [if_pos (by omega), if_pos (by omega)])
          have hm3 : m ≤ 1 := by omega
          clear hb h hm0
          go_wp2
          go_round
          case rel => exact ⟨k + 1, m + 1, by omega, by omega, by go_num, by go_num, by omega, by omega, HM2⟩
          case measure => simp [intOf]; omega
        · have hin : ¬ ((k : Int) < (fy : Int)) := by omega
          have hin2 : (fx : Int) + 1 ≤ (k : Int) := by omega
          have HM2 : Hid (cntQ fx fy (k + 1) = m) := Lib.hid (by rw [← HM.out]; unfold cntQ; simp only [show (fx < k + 1) = (fx < k) from propext (by omega), show (fy < k + 1) = (fy < k) from propext (by omega)])
          have hbl := G10.out k h hlt
          rw [hb] at hbl
          clear hb
          rcases hbl with e1 | e1
          all_goals (
            have e2 : ((s[k].toNat : Int) == o) = false := by rw [e1, HO2.out]; rfl
            go_wp2
            go_round
            case rel => exact ⟨k + 1, m, by omega, by omega, by go_num, by go_num, by omega, by omega, HM2⟩
            case measure => simp [intOf]; omega)
      · have hge : ¬ (k : Int) < (E : Int) := by omega
        have hm0 : m = 2 := by rw [← HM.out]; unfold cntQ; rw [if_pos (by omega), if_pos (by omega)]; rfl
        subst hm0
        have hfxs : fx < s.size := by omega
        have hfys : fy < s.size := by omega
        have e6 : ((s[fx].toNat : Int) == o) = true := by rw [beq_iff_eq, ← byt_at' s fx hfxs]; exact G6.out
        have e7 : ((s[fy].toNat : Int) == o) = true := by rw [beq_iff_eq, ← byt_at' s fy hfys]; exact G7.out
        have j1 : (fx : Int) < (s.size : Int) := by omega
        have j2 : (fy : Int) < (s.size : Int) := by omega
        have j3 : (0 : Int) < (fx : Int) + 1 := by omega
        go_wp2
        go_ret
        exact ⟨ret_bool (by simp [go_sem]), hbel⟩
theorem quoteInside_walk (a : Option Addr) (cap : Nat) (L : List ByteArray) (sa sb sk : Int) (W : World) (hL : LinesAt W a L) (hsa : 0 ≤ sa ∧ sa ≤ 65535) (hsb : 0 ≤ sb ∧ sb ≤ 65535) (hsk : 0 ≤ sk ∧ sk ≤ 255) :
    Calls Try.prog 7 #[.slice a L.length cap, .int .u16 sa, .int .u16 sb, .int .u8 sk] W fun e W' => e = .returned (.bool true) ∧ Below W.heap.size W W' := by
  cases hli : textB L with
  | false =>
    go_enter Try.func7, Try.ntmps7
    go_wp2_with (first | (go_at_call 29; refine (known16_any _).mono ?_; rintro e w1 ⟨rfl, hbl⟩; obtain ⟨x, rfl⟩ := ovr_of_below hbl; clear hbl) | (go_at_call 20; refine (text_any _ _ L _ (by (repeat (first | assumption | refine LinesAt.ovr ?_ _ | refine LinesAt.alloc ?_ _ | refine LinesAt.drewN ?_ _ | refine LinesAt.drew ?_)))).mono ?_; rintro e w1 ⟨rfl, rfl⟩))
    go_ret
    exact ⟨rfl, by (repeat (first | exact Below.refl _ _ | refine Below.alloc ?_ (by first | exact Nat.le_refl _ | (simp; done) | (simp; omega)) _ | refine below_ovr_of ?_ | refine drew_below ?_ _ | refine Below.drew ?_ | refine Below.setCell ?_ (by first | exact Nat.le_refl _ | (simp; done) | (simp; omega)) _ | assumption))⟩
  | true =>
    rcases (by omega : sk % 3 = 0 ∨ sk % 3 = 1 ∨ sk % 3 = 2) with h | h | h
    · exact quoteInside_at0 a cap L sa sb sk W hL hsa hsb hsk h hli
    · exact quoteInside_at1 a cap L sa sb sk W hL hsa hsb hsk h hli
    · exact quoteInside_at2 a cap L sa sb sk W hL hsa hsb hsk h hli
end Go.Proofs.Ytnaikdmkabfnlaa
