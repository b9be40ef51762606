/- The walk of the law BracketDeep. Conditions: none beyond what it says. -/
import Derived.Test.YtnaikdmkabfnlaaBracketLaws
import Derived.Outline
namespace Go.Proofs.Ytnaikdmkabfnlaa
open Go.RowKit

theorem less17_any (a b c d : Int) (w : World) : Calls Try.prog 62 #[.agg #[.int .i64 a, .int .i64 b], .agg #[.int .i64 c, .int .i64 d]] w fun e w' => e = .returned (.bool (lessB a b c d)) ∧ Below w.heap.size w w' := by
  go_enter Try.func62, Try.ntmps62
  go_wp2
  all_goals (go_ret; exact ⟨ret_bool (by rw [lessB_eq]; first | (simp; omega) | (simp_all; done) | (simp_all; omega)), by (repeat (first | exact Below.refl _ _ | refine Below.alloc ?_ (by first | exact Nat.le_refl _ | (simp; done) | (simp; omega)) _ | refine below_ovr_of ?_ | refine drew_below ?_ _ | refine Below.drew ?_ | refine Below.setCell ?_ (by first | exact Nat.le_refl _ | (simp; done) | (simp; omega)) _ | assumption))⟩)
theorem bracketP_way {L : List ByteArray} {pl pc o n : Int} {r : Rng} (h : bracketP L pl pc o n true = (r, true)) : ∃ a b x y, byteB L pl pc = true ∧ enclP L pl pc o n = (((a, b), (x, y)), true) ∧ r = (0, a, b, x, y + 1) := by
  cases hb : byteB L pl pc with
  | false => rw [bracketP_no hb] at h; simp [noR] at h
  | true =>
    obtain ⟨⟨⟨⟨a, b⟩, ⟨x, y⟩⟩, ok⟩, he⟩ : ∃ r, enclP L pl pc o n = r := ⟨_, rfl⟩
    cases ok with
    | false => rw [bracketP_none he] at h; simp [noR] at h
    | true =>
      rw [bracketP_out hb he] at h
      simp only [Prod.mk.injEq, and_true] at h
      exact ⟨a, b, x, y, rfl, he, h.symm⟩
theorem bracket_stops {L : List ByteArray} {pl pc o n : Int} {r : Rng} (hn : 1 ≤ n) (h : bracketP L pl pc o n true = (r, false)) : bracketP L pl pc o (n + 1) true = noR := by
  cases hb : byteB L pl pc with
  | false => exact bracketP_no hb
  | true =>
    obtain ⟨⟨⟨⟨a, b⟩, ⟨x, y⟩⟩, ok⟩, he⟩ : ∃ r, enclP L pl pc o n = r := ⟨_, rfl⟩
    cases ok with
    | true => rw [bracketP_out hb he] at h; simp at h
    | false =>
      obtain ⟨⟨⟨a', b'⟩, ⟨x', y'⟩⟩, he'⟩ := encl_stops hn he
      exact bracketP_none he'
theorem lessB_succ (a b c d : Int) : lessB a (b + 1) c (d + 1) = lessB a b c d := by
  rw [lessB_eq, lessB_eq]
  congr 1
  apply propext
  omega

set_option maxRecDepth 100000 in
set_option maxHeartbeats 4000000 in
theorem bracketDeep_at0 (a : Option Addr) (cap : Nat) (L : List ByteArray) (sa sb sk : Int) (W : World) (hL : LinesAt W a L) (hsa : 0 ≤ sa ∧ sa ≤ 65535) (hsb : 0 ≤ sb ∧ sb ≤ 65535) (hsk : 0 ≤ sk ∧ sk ≤ 255) (hk3 : sk % 3 = 0) (hli : textB L = true) :
    Calls Try.prog 18 #[.slice a L.length cap, .int .u16 sa, .int .u16 sb, .int .u8 sk] W fun e W' => e = .returned (.bool true) ∧ Below W.heap.size W W' := by
  obtain ⟨h0, hn, htot, _⟩ := text_spec hli
  obtain ⟨pl, pc, hsl, hsc, hp_pl⟩ := seat_facts (L := L) (x := sa) (y := sb) h0 hsa.1
  have HSLpl := Lib.hid hsl
  have HSCpl := Lib.hid hsc
  clear hsl hsc
  go_enter Try.func18, Try.ntmps18
  go_wp2_with (first | (go_at_call 57; refine (known17_any _).mono ?_; rintro e w1 ⟨rfl, hbl⟩; obtain ⟨x, rfl⟩ := ovr_of_below hbl; clear hbl) | (go_at_call 20; refine (text_any _ _ L _ (by (repeat (first | assumption | refine LinesAt.ovr ?_ _ | refine LinesAt.alloc ?_ _ | refine LinesAt.drewN ?_ _ | refine LinesAt.drew ?_)))).mono ?_; rintro e w1 ⟨rfl, rfl⟩) | (go_at_call 22; refine (seat_at _ _ L _ _ _ (by (repeat (first | assumption | refine LinesAt.ovr ?_ _ | refine LinesAt.alloc ?_ _ | refine LinesAt.drewN ?_ _ | refine LinesAt.drew ?_))) h0 hsa hsb HSLpl HSCpl).mono ?_; rintro e w1 ⟨rfl, hbl⟩; obtain ⟨x, rfl⟩ := ovr_of_below hbl; clear hbl))
  refine name_ptr4 9 rfl ?_
  intro Bp hBp
  refine name_ptr4 11 rfl ?_
  intro T hT
  rw [← hT]
  rw [← hBp]
  refine name_world ?_
  intro W0 hW
  have p0 : W0.cell? ⟨Bp, 0, none⟩ = some (.int .i64 pl) := by subst hW hT hBp; simp [go_sem]
  have p1 : W0.cell? ⟨Bp, 1, none⟩ = some (.int .i64 pc) := by subst hW hT hBp; simp [go_sem]
  have t0 : W0.cell? ⟨T, 0, none⟩ = some (.int .i64 0) := by subst hW hT hBp; simp [go_sem]
  have t1 : W0.cell? ⟨T, 1, none⟩ = some (.int .i64 0) := by subst hW hT hBp; simp [go_sem]
  have t2 : W0.cell? ⟨T, 2, none⟩ = some (.int .i64 0) := by subst hW hT hBp; simp [go_sem]
  have t3 : W0.cell? ⟨T, 3, none⟩ = some (.int .i64 0) := by subst hW hT hBp; simp [go_sem]
  have t4 : W0.cell? ⟨T, 4, none⟩ = some (.int .i64 0) := by subst hW hT hBp; simp [go_sem]
  have f0 : W0.frozen? ⟨T, 0, none⟩ = false := by subst hW hT hBp; simp [go_sem]
  have f1 : W0.frozen? ⟨T, 1, none⟩ = false := by subst hW hT hBp; simp [go_sem]
  have f2 : W0.frozen? ⟨T, 2, none⟩ = false := by subst hW hT hBp; simp [go_sem]
  have f3 : W0.frozen? ⟨T, 3, none⟩ = false := by subst hW hT hBp; simp [go_sem]
  have f4 : W0.frozen? ⟨T, 4, none⟩ = false := by subst hW hT hBp; simp [go_sem]
  have hL0 : LinesAt W0 a L := by subst hW hT hBp; (repeat (first | assumption | refine LinesAt.ovr ?_ _ | refine LinesAt.alloc ?_ _ | refine LinesAt.drewN ?_ _ | refine LinesAt.drew ?_))
  have hbel : Below W.heap.size W W0 := by subst hW hT hBp; (repeat (first | with_reducible exact Below.refl _ _ | (with_reducible refine Below.setCell ?_ ?_ _; rotate_left; · (first | exact Nat.le_refl _ | assumption | omega | (simp; done) | (simp; omega))) | (with_reducible refine Below.alloc ?_ ?_ _; rotate_left; · (first | exact Nat.le_refl _ | assumption | omega | (simp; done) | (simp; omega))) | with_reducible refine below_ovr_of ?_ | with_reducible refine drew_below ?_ _ | with_reducible refine Below.drew ?_ | with_reducible assumption))
  have hTW : W.heap.size ≤ T := by subst hT; omega
  have hBT : Bp < T := by subst hT hBp; omega
  clear hW hT hBp
  obtain ⟨o, ho⟩ : ∃ o : Int, ((({ data := #[40, 91, 123] } : ByteArray)[0].toNat : Nat) : Int) = o := ⟨_, rfl⟩
  rw [ho]
  clear ho hk3
  go_loopw [12, 13] (fun h i wr => Below T W0 wr ∧ T < wr.heap.size ∧ (wr.frozen? ⟨T, 0, none⟩ = false ∧ wr.frozen? ⟨T, 1, none⟩ = false ∧ wr.frozen? ⟨T, 2, none⟩ = false ∧ wr.frozen? ⟨T, 3, none⟩ = false ∧ wr.frozen? ⟨T, 4, none⟩ = false) ∧ ∃ (k : Nat) (la lb lx ly : Int), 1 ≤ k ∧ k ≤ 12 ∧ i = .int .i64 k ∧
    (wr.cell? ⟨T, 0, none⟩ = some (.int .i64 0) ∧ wr.cell? ⟨T, 1, none⟩ = some (.int .i64 la) ∧ wr.cell? ⟨T, 2, none⟩ = some (.int .i64 lb) ∧ wr.cell? ⟨T, 3, none⟩ = some (.int .i64 lx) ∧ wr.cell? ⟨T, 4, none⟩ = some (.int .i64 (ly + 1))) ∧
    ((k = 1 ∧ h = .bool false) ∨ (2 ≤ k ∧ h = .bool true ∧ Hid (enclP L pl pc o ((k : Int) - 1) = (((la, lb), (lx, ly)), true)))))
    (fun _ i _ => (12 - intOf i).toNat)
  case atStart => exact ⟨Below.refl _ _, cell_lt4 t0, ⟨f0, f1, f2, f3, f4⟩, 1, 0, 0, 0, -1, by omega, by omega, rfl, ⟨t0, t1, t2, t3, by rw [t4]; rfl⟩, .inl ⟨rfl, rfl⟩⟩
  case round =>
    obtain ⟨hbr, hTr, ⟨y0, y1, y2, y3, y4⟩, k, la, lb, lx, ly, hk1, hk2, rfl, ⟨r0, r1, r2, r3, r4⟩, hcase⟩ := hrel
    have hbw : Below W.heap.size W wr := hbel.trans (hbr.mono hTW)
    have hLr : LinesAt wr a L := hL.below hbw (Nat.le_refl _)
    have pr0 : wr.cell? ⟨Bp, 0, none⟩ = some (.int .i64 pl) := (hbr.cell (p := ⟨Bp, 0, none⟩) hBT).trans p0
    have pr1 : wr.cell? ⟨Bp, 1, none⟩ = some (.int .i64 pc) := (hbr.cell (p := ⟨Bp, 1, none⟩) hBT).trans p1
    have hBr : Bp < wr.heap.size := by omega
    by_cases hlt : k < 12
    · have hltI : (k : Int) < 12 := by omega
      have hk0 : (0 : Int) ≤ (k : Int) := by omega
      obtain ⟨⟨z1, z2, z3, z4, z5⟩, ok, hbk⟩ : ∃ (r : Rng) (ok : Bool), bracketP L pl pc o k true = (r, ok) := ⟨_, _, rfl⟩
      cases ok with
      | false =>
        have HB1 := Lib.hid hbk
        have HB2 : Hid (bracketP L pl pc o ((k : Int) + 1) true = ((0, 0, 0, 0, 0), false)) := Lib.hid (bracket_stops (by omega) hbk)
        clear hbk
        go_wp2_with fail
        go_at_call 60; refine (baround_any _ _ L _ _ _ _ _ (by (repeat (first | assumption | refine LinesAt.ovr ?_ _ | refine LinesAt.alloc ?_ _ | refine LinesAt.drewN ?_ _ | refine LinesAt.drew ?_))) (by omega) (by omega)).mono ?_; rw [HB1.out]; rintro e w1 ⟨rfl, hbl⟩; obtain ⟨x1, rfl⟩ := ovr_of_below hbl; clear hbl
        go_wp2_with fail
        go_at_call 60; refine (baround_any _ _ L _ _ _ _ _ (by (repeat (first | assumption | refine LinesAt.ovr ?_ _ | refine LinesAt.alloc ?_ _ | refine LinesAt.drewN ?_ _ | refine LinesAt.drew ?_))) (by omega) (by omega)).mono ?_; rw [HB2.out]; rintro e w1 ⟨rfl, hbl⟩; obtain ⟨x2, rfl⟩ := ovr_of_below hbl; clear hbl
        go_wp2
        go_ret
        exact ⟨rfl, by (repeat (first | with_reducible exact hbw | (with_reducible refine below_ovr_le ?_ ?_ _; rotate_left; · (first | omega | (simp; done) | (simp; omega))) | (with_reducible refine Below.alloc ?_ ?_ _; rotate_left; · (first | omega | (simp; done) | (simp; omega))) | (with_reducible refine Below.setCell ?_ ?_ _; rotate_left; · (first | omega | (simp; done) | (simp; omega))) | with_reducible refine drew_below ?_ _ | with_reducible refine Below.drew ?_))⟩
      | true =>
        obtain ⟨a', b', x', y', hb, he, hr⟩ := bracketP_way hbk
        simp only [Prod.mk.injEq] at hr
        obtain ⟨h1, h2, h3, h4, h5⟩ := hr
        subst h1
        obtain rfl := h2.symm
        obtain rfl := h3.symm
        obtain rfl := h4.symm
        subst h5
        have HB1 := Lib.hid hbk
        have HE := Lib.hid he
        rcases hcase with ⟨hke, rfl⟩ | ⟨hk3', rfl, HP⟩
        · clear hbk he hb hke
          go_wp2_with fail
          go_at_call 60; refine (baround_any _ _ L _ _ _ _ _ (by (repeat (first | assumption | refine LinesAt.ovr ?_ _ | refine LinesAt.alloc ?_ _ | refine LinesAt.drewN ?_ _ | refine LinesAt.drew ?_))) (by omega) (by omega)).mono ?_; rw [HB1.out]; rintro e w1 ⟨rfl, hbl⟩; obtain ⟨x1, rfl⟩ := ovr_of_below hbl; clear hbl
          go_wp2
          go_roundw
          case rel =>
            refine ⟨by (repeat (first | with_reducible exact hbr | (with_reducible refine below_ovr_le ?_ ?_ _; rotate_left; · (first | omega | (simp; done) | (simp; omega))) | (with_reducible refine Below.alloc ?_ ?_ _; rotate_left; · (first | omega | (simp; done) | (simp; omega))) | (with_reducible refine Below.setCell ?_ ?_ _; rotate_left; · (first | omega | (simp; done) | (simp; omega))) | with_reducible refine drew_below ?_ _ | with_reducible refine Below.drew ?_)), by simp; omega, ⟨by simp [go_sem, y0, hTr], by simp [go_sem, y1, hTr], by simp [go_sem, y2, hTr], by simp [go_sem, y3, hTr], by simp [go_sem, y4, hTr]⟩, k + 1, a', b', x', y', by omega, by omega, by go_num, ⟨by simp [go_sem, r0, hTr], by simp [go_sem, r1, hTr], by simp [go_sem, r2, hTr], by simp [go_sem, r3, hTr], by simp [go_sem, r4, hTr]⟩, .inr ⟨by omega, rfl, ?_⟩⟩
            exact Lib.hid (by rw [show ((k + 1 : Nat) : Int) - 1 = (k : Int) by omega]; exact HE.out)
          case measure => simp [intOf]; omega
        · obtain ⟨l1, l2⟩ := encl_deep (n := (k : Int) - 1) (by omega) HP.out (by rw [show (k : Int) - 1 + 1 = (k : Int) by omega]; exact he)
          have HL1 := Lib.hid l1
          have HL2 : Hid (lessB lx (ly + 1) x' (y' + 1) = true) := Lib.hid ((lessB_succ _ _ _ _).trans l2)
          clear hbk he hb l1 l2
          go_wp2_with fail
          go_at_call 60; refine (baround_any _ _ L _ _ _ _ _ (by (repeat (first | assumption | refine LinesAt.ovr ?_ _ | refine LinesAt.alloc ?_ _ | refine LinesAt.drewN ?_ _ | refine LinesAt.drew ?_))) (by omega) (by omega)).mono ?_; rw [HB1.out]; rintro e w1 ⟨rfl, hbl⟩; obtain ⟨x1, rfl⟩ := ovr_of_below hbl; clear hbl
          go_wp2_with fail
          go_at_call 62; refine (less17_any _ _ _ _ _).mono ?_; rw [HL1.out]; rintro e w1 ⟨rfl, hbl⟩; obtain ⟨x2, rfl⟩ := ovr_of_below hbl; clear hbl
          go_wp2_with fail
          go_at_call 62; refine (less17_any _ _ _ _ _).mono ?_; rw [HL2.out]; rintro e w1 ⟨rfl, hbl⟩; obtain ⟨x3, rfl⟩ := ovr_of_below hbl; clear hbl
          go_wp2
          go_roundw
          case rel =>
            refine ⟨by (repeat (first | with_reducible exact hbr | (with_reducible refine below_ovr_le ?_ ?_ _; rotate_left; · (first | omega | (simp; done) | (simp; omega))) | (with_reducible refine Below.alloc ?_ ?_ _; rotate_left; · (first | omega | (simp; done) | (simp; omega))) | (with_reducible refine Below.setCell ?_ ?_ _; rotate_left; · (first | omega | (simp; done) | (simp; omega))) | with_reducible refine drew_below ?_ _ | with_reducible refine Below.drew ?_)), by simp; omega, ⟨by simp [go_sem, y0, hTr], by simp [go_sem, y1, hTr], by simp [go_sem, y2, hTr], by simp [go_sem, y3, hTr], by simp [go_sem, y4, hTr]⟩, k + 1, a', b', x', y', by omega, by omega, by go_num, ⟨by simp [go_sem, r0, hTr], by simp [go_sem, r1, hTr], by simp [go_sem, r2, hTr], by simp [go_sem, r3, hTr], by simp [go_sem, r4, hTr]⟩, .inr ⟨by omega, rfl, ?_⟩⟩
            exact Lib.hid (by rw [show ((k + 1 : Nat) : Int) - 1 = (k : Int) by omega]; exact HE.out)
          case measure => simp [intOf]; omega
    · have e12 : k = 12 := by omega
      have hge : ¬ (k : Int) < 12 := by omega
      clear e12
      go_wp2
      go_ret
      exact ⟨rfl, by (repeat (first | with_reducible exact hbw | (with_reducible refine below_ovr_le ?_ ?_ _; rotate_left; · (first | omega | (simp; done) | (simp; omega))) | (with_reducible refine Below.alloc ?_ ?_ _; rotate_left; · (first | omega | (simp; done) | (simp; omega))) | (with_reducible refine Below.setCell ?_ ?_ _; rotate_left; · (first | omega | (simp; done) | (simp; omega))) | with_reducible refine drew_below ?_ _ | with_reducible refine Below.drew ?_))⟩
set_option maxRecDepth 100000 in
set_option maxHeartbeats 4000000 in
theorem bracketDeep_at1 (a : Option Addr) (cap : Nat) (L : List ByteArray) (sa sb sk : Int) (W : World) (hL : LinesAt W a L) (hsa : 0 ≤ sa ∧ sa ≤ 65535) (hsb : 0 ≤ sb ∧ sb ≤ 65535) (hsk : 0 ≤ sk ∧ sk ≤ 255) (hk3 : sk % 3 = 1) (hli : textB L = true) :
    Calls Try.prog 18 #[.slice a L.length cap, .int .u16 sa, .int .u16 sb, .int .u8 sk] W fun e W' => e = .returned (.bool true) ∧ Below W.heap.size W W' := by
  obtain ⟨h0, hn, htot, _⟩ := text_spec hli
  obtain ⟨pl, pc, hsl, hsc, hp_pl⟩ := seat_facts (L := L) (x := sa) (y := sb) h0 hsa.1
  have HSLpl := Lib.hid hsl
  have HSCpl := Lib.hid hsc
  clear hsl hsc
  go_enter Try.func18, Try.ntmps18
  go_wp2_with (first | (go_at_call 57; refine (known17_any _).mono ?_; rintro e w1 ⟨rfl, hbl⟩; obtain ⟨x, rfl⟩ := ovr_of_below hbl; clear hbl) | (go_at_call 20; refine (text_any _ _ L _ (by (repeat (first | assumption | refine LinesAt.ovr ?_ _ | refine LinesAt.alloc ?_ _ | refine LinesAt.drewN ?_ _ | refine LinesAt.drew ?_)))).mono ?_; rintro e w1 ⟨rfl, rfl⟩) | (go_at_call 22; refine (seat_at _ _ L _ _ _ (by (repeat (first | assumption | refine LinesAt.ovr ?_ _ | refine LinesAt.alloc ?_ _ | refine LinesAt.drewN ?_ _ | refine LinesAt.drew ?_))) h0 hsa hsb HSLpl HSCpl).mono ?_; rintro e w1 ⟨rfl, hbl⟩; obtain ⟨x, rfl⟩ := ovr_of_below hbl; clear hbl))
  refine name_ptr4 9 rfl ?_
  intro Bp hBp
  refine name_ptr4 11 rfl ?_
  intro T hT
  rw [← hT]
  rw [← hBp]
  refine name_world ?_
  intro W0 hW
  have p0 : W0.cell? ⟨Bp, 0, none⟩ = some (.int .i64 pl) := by subst hW hT hBp; simp [go_sem]
  have p1 : W0.cell? ⟨Bp, 1, none⟩ = some (.int .i64 pc) := by subst hW hT hBp; simp [go_sem]
  have t0 : W0.cell? ⟨T, 0, none⟩ = some (.int .i64 0) := by subst hW hT hBp; simp [go_sem]
  have t1 : W0.cell? ⟨T, 1, none⟩ = some (.int .i64 0) := by subst hW hT hBp; simp [go_sem]
  have t2 : W0.cell? ⟨T, 2, none⟩ = some (.int .i64 0) := by subst hW hT hBp; simp [go_sem]
  have t3 : W0.cell? ⟨T, 3, none⟩ = some (.int .i64 0) := by subst hW hT hBp; simp [go_sem]
  have t4 : W0.cell? ⟨T, 4, none⟩ = some (.int .i64 0) := by subst hW hT hBp; simp [go_sem]
  have f0 : W0.frozen? ⟨T, 0, none⟩ = false := by subst hW hT hBp; simp [go_sem]
  have f1 : W0.frozen? ⟨T, 1, none⟩ = false := by subst hW hT hBp; simp [go_sem]
  have f2 : W0.frozen? ⟨T, 2, none⟩ = false := by subst hW hT hBp; simp [go_sem]
  have f3 : W0.frozen? ⟨T, 3, none⟩ = false := by subst hW hT hBp; simp [go_sem]
  have f4 : W0.frozen? ⟨T, 4, none⟩ = false := by subst hW hT hBp; simp [go_sem]
  have hL0 : LinesAt W0 a L := by subst hW hT hBp; (repeat (first | assumption | refine LinesAt.ovr ?_ _ | refine LinesAt.alloc ?_ _ | refine LinesAt.drewN ?_ _ | refine LinesAt.drew ?_))
  have hbel : Below W.heap.size W W0 := by subst hW hT hBp; (repeat (first | with_reducible exact Below.refl _ _ | (with_reducible refine Below.setCell ?_ ?_ _; rotate_left; · (first | exact Nat.le_refl _ | assumption | omega | (simp; done) | (simp; omega))) | (with_reducible refine Below.alloc ?_ ?_ _; rotate_left; · (first | exact Nat.le_refl _ | assumption | omega | (simp; done) | (simp; omega))) | with_reducible refine below_ovr_of ?_ | with_reducible refine drew_below ?_ _ | with_reducible refine Below.drew ?_ | with_reducible assumption))
  have hTW : W.heap.size ≤ T := by subst hT; omega
  have hBT : Bp < T := by subst hT hBp; omega
  clear hW hT hBp
  obtain ⟨o, ho⟩ : ∃ o : Int, ((({ data := #[40, 91, 123] } : ByteArray)[1].toNat : Nat) : Int) = o := ⟨_, rfl⟩
  rw [ho]
  clear ho hk3
  go_loopw [12, 13] (fun h i wr => Below T W0 wr ∧ T < wr.heap.size ∧ (wr.frozen? ⟨T, 0, none⟩ = false ∧ wr.frozen? ⟨T, 1, none⟩ = false ∧ wr.frozen? ⟨T, 2, none⟩ = false ∧ wr.frozen? ⟨T, 3, none⟩ = false ∧ wr.frozen? ⟨T, 4, none⟩ = false) ∧ ∃ (k : Nat) (la lb lx ly : Int), 1 ≤ k ∧ k ≤ 12 ∧ i = .int .i64 k ∧
    (wr.cell? ⟨T, 0, none⟩ = some (.int .i64 0) ∧ wr.cell? ⟨T, 1, none⟩ = some (.int .i64 la) ∧ wr.cell? ⟨T, 2, none⟩ = some (.int .i64 lb) ∧ wr.cell? ⟨T, 3, none⟩ = some (.int .i64 lx) ∧ wr.cell? ⟨T, 4, none⟩ = some (.int .i64 (ly + 1))) ∧
    ((k = 1 ∧ h = .bool false) ∨ (2 ≤ k ∧ h = .bool true ∧ Hid (enclP L pl pc o ((k : Int) - 1) = (((la, lb), (lx, ly)), true)))))
    (fun _ i _ => (12 - intOf i).toNat)
  case atStart => exact ⟨Below.refl _ _, cell_lt4 t0, ⟨f0, f1, f2, f3, f4⟩, 1, 0, 0, 0, -1, by omega, by omega, rfl, ⟨t0, t1, t2, t3, by rw [t4]; rfl⟩, .inl ⟨rfl, rfl⟩⟩
  case round =>
    obtain ⟨hbr, hTr, ⟨y0, y1, y2, y3, y4⟩, k, la, lb, lx, ly, hk1, hk2, rfl, ⟨r0, r1, r2, r3, r4⟩, hcase⟩ := hrel
    have hbw : Below W.heap.size W wr := hbel.trans (hbr.mono hTW)
    have hLr : LinesAt wr a L := hL.below hbw (Nat.le_refl _)
    have pr0 : wr.cell? ⟨Bp, 0, none⟩ = some (.int .i64 pl) := (hbr.cell (p := ⟨Bp, 0, none⟩) hBT).trans p0
    have pr1 : wr.cell? ⟨Bp, 1, none⟩ = some (.int .i64 pc) := (hbr.cell (p := ⟨Bp, 1, none⟩) hBT).trans p1
    have hBr : Bp < wr.heap.size := by omega
    by_cases hlt : k < 12
    · have hltI : (k : Int) < 12 := by omega
      have hk0 : (0 : Int) ≤ (k : Int) := by omega
      obtain ⟨⟨z1, z2, z3, z4, z5⟩, ok, hbk⟩ : ∃ (r : Rng) (ok : Bool), bracketP L pl pc o k true = (r, ok) := ⟨_, _, rfl⟩
      cases ok with
      | false =>
        have HB1 := Lib.hid hbk
        have HB2 : Hid (bracketP L pl pc o ((k : Int) + 1) true = ((0, 0, 0, 0, 0), false)) := Lib.hid (bracket_stops (by omega) hbk)
        clear hbk
        go_wp2_with fail
        go_at_call 60; refine (baround_any _ _ L _ _ _ _ _ (by (repeat (first | assumption | refine LinesAt.ovr ?_ _ | refine LinesAt.alloc ?_ _ | refine LinesAt.drewN ?_ _ | refine LinesAt.drew ?_))) (by omega) (by omega)).mono ?_; rw [HB1.out]; rintro e w1 ⟨rfl, hbl⟩; obtain ⟨x1, rfl⟩ := ovr_of_below hbl; clear hbl
        go_wp2_with fail
        go_at_call 60; refine (baround_any _ _ L _ _ _ _ _ (by (repeat (first | assumption | refine LinesAt.ovr ?_ _ | refine LinesAt.alloc ?_ _ | refine LinesAt.drewN ?_ _ | refine LinesAt.drew ?_))) (by omega) (by omega)).mono ?_; rw [HB2.out]; rintro e w1 ⟨rfl, hbl⟩; obtain ⟨x2, rfl⟩ := ovr_of_below hbl; clear hbl
        go_wp2
        go_ret
        exact ⟨rfl, by (repeat (first | with_reducible exact hbw | (with_reducible refine below_ovr_le ?_ ?_ _; rotate_left; · (first | omega | (simp; done) | (simp; omega))) | (with_reducible refine Below.alloc ?_ ?_ _; rotate_left; · (first | omega | (simp; done) | (simp; omega))) | (with_reducible refine Below.setCell ?_ ?_ _; rotate_left; · (first | omega | (simp; done) | (simp; omega))) | with_reducible refine drew_below ?_ _ | with_reducible refine Below.drew ?_))⟩
      | true =>
        obtain ⟨a', b', x', y', hb, he, hr⟩ := bracketP_way hbk
        simp only [Prod.mk.injEq] at hr
        obtain ⟨h1, h2, h3, h4, h5⟩ := hr
        subst h1
        obtain rfl := h2.symm
        obtain rfl := h3.symm
        obtain rfl := h4.symm
        subst h5
        have HB1 := Lib.hid hbk
        have HE := Lib.hid he
        rcases hcase with ⟨hke, rfl⟩ | ⟨hk3', rfl, HP⟩
        · clear hbk he hb hke
          go_wp2_with fail
          go_at_call 60; refine (baround_any _ _ L _ _ _ _ _ (by (repeat (first | assumption | refine LinesAt.ovr ?_ _ | refine LinesAt.alloc ?_ _ | refine LinesAt.drewN ?_ _ | refine LinesAt.drew ?_))) (by omega) (by omega)).mono ?_; rw [HB1.out]; rintro e w1 ⟨rfl, hbl⟩; obtain ⟨x1, rfl⟩ := ovr_of_below hbl; clear hbl
          go_wp2
          go_roundw
          case rel =>
            refine ⟨by (repeat (first | with_reducible exact hbr | (with_reducible refine below_ovr_le ?_ ?_ _; rotate_left; · (first | omega | (simp; done) | (simp; omega))) | (with_reducible refine Below.alloc ?_ ?_ _; rotate_left; · (first | omega | (simp; done) | (simp; omega))) | (with_reducible refine Below.setCell ?_ ?_ _; rotate_left; · (first | omega | (simp; done) | (simp; omega))) | with_reducible refine drew_below ?_ _ | with_reducible refine Below.drew ?_)), by simp; omega, ⟨by simp [go_sem, y0, hTr], by simp [go_sem, y1, hTr], by simp [go_sem, y2, hTr], by simp [go_sem, y3, hTr], by simp [go_sem, y4, hTr]⟩, k + 1, a', b', x', y', by omega, by omega, by go_num, ⟨by simp [go_sem, r0, hTr], by simp [go_sem, r1, hTr], by simp [go_sem, r2, hTr], by simp [go_sem, r3, hTr], by simp [go_sem, r4, hTr]⟩, .inr ⟨by omega, rfl, ?_⟩⟩
            exact Lib.hid (by rw [show ((k + 1 : Nat) : Int) - 1 = (k : Int) by omega]; exact HE.out)
          case measure => simp [intOf]; omega
        · obtain ⟨l1, l2⟩ := encl_deep (n := (k : Int) - 1) (by omega) HP.out (by rw [show (k : Int) - 1 + 1 = (k : Int) by omega]; exact he)
          have HL1 := Lib.hid l1
          have HL2 : Hid (lessB lx (ly + 1) x' (y' + 1) = true) := Lib.hid ((lessB_succ _ _ _ _).trans l2)
          clear hbk he hb l1 l2
          go_wp2_with fail
          go_at_call 60; refine (baround_any _ _ L _ _ _ _ _ (by (repeat (first | assumption | refine LinesAt.ovr ?_ _ | refine LinesAt.alloc ?_ _ | refine LinesAt.drewN ?_ _ | refine LinesAt.drew ?_))) (by omega) (by omega)).mono ?_; rw [HB1.out]; rintro e w1 ⟨rfl, hbl⟩; obtain ⟨x1, rfl⟩ := ovr_of_below hbl; clear hbl
          go_wp2_with fail
          go_at_call 62; refine (less17_any _ _ _ _ _).mono ?_; rw [HL1.out]; rintro e w1 ⟨rfl, hbl⟩; obtain ⟨x2, rfl⟩ := ovr_of_below hbl; clear hbl
          go_wp2_with fail
          go_at_call 62; refine (less17_any _ _ _ _ _).mono ?_; rw [HL2.out]; rintro e w1 ⟨rfl, hbl⟩; obtain ⟨x3, rfl⟩ := ovr_of_below hbl; clear hbl
          go_wp2
          go_roundw
          case rel =>
            refine ⟨by (repeat (first | with_reducible exact hbr | (with_reducible refine below_ovr_le ?_ ?_ _; rotate_left; · (first | omega | (simp; done) | (simp; omega))) | (with_reducible refine Below.alloc ?_ ?_ _; rotate_left; · (first | omega | (simp; done) | (simp; omega))) | (with_reducible refine Below.setCell ?_ ?_ _; rotate_left; · (first | omega | (simp; done) | (simp; omega))) | with_reducible refine drew_below ?_ _ | with_reducible refine Below.drew ?_)), by simp; omega, ⟨by simp [go_sem, y0, hTr], by simp [go_sem, y1, hTr], by simp [go_sem, y2, hTr], by simp [go_sem, y3, hTr], by simp [go_sem, y4, hTr]⟩, k + 1, a', b', x', y', by omega, by omega, by go_num, ⟨by simp [go_sem, r0, hTr], by simp [go_sem, r1, hTr], by simp [go_sem, r2, hTr], by simp [go_sem, r3, hTr], by simp [go_sem, r4, hTr]⟩, .inr ⟨by omega, rfl, ?_⟩⟩
            exact Lib.hid (by rw [show ((k + 1 : Nat) : Int) - 1 = (k : Int) by omega]; exact HE.out)
          case measure => simp [intOf]; omega
    · have e12 : k = 12 := by omega
      have hge : ¬ (k : Int) < 12 := by omega
      clear e12
      go_wp2
      go_ret
      exact ⟨rfl, by (repeat (first | with_reducible exact hbw | (with_reducible refine below_ovr_le ?_ ?_ _; rotate_left; · (first | omega | (simp; done) | (simp; omega))) | (with_reducible refine Below.alloc ?_ ?_ _; rotate_left; · (first | omega | (simp; done) | (simp; omega))) | (with_reducible refine Below.setCell ?_ ?_ _; rotate_left; · (first | omega | (simp; done) | (simp; omega))) | with_reducible refine drew_below ?_ _ | with_reducible refine Below.drew ?_))⟩
set_option maxRecDepth 100000 in
set_option maxHeartbeats 4000000 in
theorem bracketDeep_at2 (a : Option Addr) (cap : Nat) (L : List ByteArray) (sa sb sk : Int) (W : World) (hL : LinesAt W a L) (hsa : 0 ≤ sa ∧ sa ≤ 65535) (hsb : 0 ≤ sb ∧ sb ≤ 65535) (hsk : 0 ≤ sk ∧ sk ≤ 255) (hk3 : sk % 3 = 2) (hli : textB L = true) :
    Calls Try.prog 18 #[.slice a L.length cap, .int .u16 sa, .int .u16 sb, .int .u8 sk] W fun e W' => e = .returned (.bool true) ∧ Below W.heap.size W W' := by
  obtain ⟨h0, hn, htot, _⟩ := text_spec hli
  obtain ⟨pl, pc, hsl, hsc, hp_pl⟩ := seat_facts (L := L) (x := sa) (y := sb) h0 hsa.1
  have HSLpl := Lib.hid hsl
  have HSCpl := Lib.hid hsc
  clear hsl hsc
  go_enter Try.func18, Try.ntmps18
  go_wp2_with (first | (go_at_call 57; refine (known17_any _).mono ?_; rintro e w1 ⟨rfl, hbl⟩; obtain ⟨x, rfl⟩ := ovr_of_below hbl; clear hbl) | (go_at_call 20; refine (text_any _ _ L _ (by (repeat (first | assumption | refine LinesAt.ovr ?_ _ | refine LinesAt.alloc ?_ _ | refine LinesAt.drewN ?_ _ | refine LinesAt.drew ?_)))).mono ?_; rintro e w1 ⟨rfl, rfl⟩) | (go_at_call 22; refine (seat_at _ _ L _ _ _ (by (repeat (first | assumption | refine LinesAt.ovr ?_ _ | refine LinesAt.alloc ?_ _ | refine LinesAt.drewN ?_ _ | refine LinesAt.drew ?_))) h0 hsa hsb HSLpl HSCpl).mono ?_; rintro e w1 ⟨rfl, hbl⟩; obtain ⟨x, rfl⟩ := ovr_of_below hbl; clear hbl))
  refine name_ptr4 9 rfl ?_
  intro Bp hBp
  refine name_ptr4 11 rfl ?_
  intro T hT
  rw [← hT]
  rw [← hBp]
  refine name_world ?_
  intro W0 hW
  have p0 : W0.cell? ⟨Bp, 0, none⟩ = some (.int .i64 pl) := by subst hW hT hBp; simp [go_sem]
  have p1 : W0.cell? ⟨Bp, 1, none⟩ = some (.int .i64 pc) := by subst hW hT hBp; simp [go_sem]
  have t0 : W0.cell? ⟨T, 0, none⟩ = some (.int .i64 0) := by subst hW hT hBp; simp [go_sem]
  have t1 : W0.cell? ⟨T, 1, none⟩ = some (.int .i64 0) := by subst hW hT hBp; simp [go_sem]
  have t2 : W0.cell? ⟨T, 2, none⟩ = some (.int .i64 0) := by subst hW hT hBp; simp [go_sem]
  have t3 : W0.cell? ⟨T, 3, none⟩ = some (.int .i64 0) := by subst hW hT hBp; simp [go_sem]
  have t4 : W0.cell? ⟨T, 4, none⟩ = some (.int .i64 0) := by subst hW hT hBp; simp [go_sem]
  have f0 : W0.frozen? ⟨T, 0, none⟩ = false := by subst hW hT hBp; simp [go_sem]
  have f1 : W0.frozen? ⟨T, 1, none⟩ = false := by subst hW hT hBp; simp [go_sem]
  have f2 : W0.frozen? ⟨T, 2, none⟩ = false := by subst hW hT hBp; simp [go_sem]
  have f3 : W0.frozen? ⟨T, 3, none⟩ = false := by subst hW hT hBp; simp [go_sem]
  have f4 : W0.frozen? ⟨T, 4, none⟩ = false := by subst hW hT hBp; simp [go_sem]
  have hL0 : LinesAt W0 a L := by subst hW hT hBp; (repeat (first | assumption | refine LinesAt.ovr ?_ _ | refine LinesAt.alloc ?_ _ | refine LinesAt.drewN ?_ _ | refine LinesAt.drew ?_))
  have hbel : Below W.heap.size W W0 := by subst hW hT hBp; (repeat (first | with_reducible exact Below.refl _ _ | (with_reducible refine Below.setCell ?_ ?_ _; rotate_left; · (first | exact Nat.le_refl _ | assumption | omega | (simp; done) | (simp; omega))) | (with_reducible refine Below.alloc ?_ ?_ _; rotate_left; · (first | exact Nat.le_refl _ | assumption | omega | (simp; done) | (simp; omega))) | with_reducible refine below_ovr_of ?_ | with_reducible refine drew_below ?_ _ | with_reducible refine Below.drew ?_ | with_reducible assumption))
  have hTW : W.heap.size ≤ T := by subst hT; omega
  have hBT : Bp < T := by subst hT hBp; omega
  clear hW hT hBp
  obtain ⟨o, ho⟩ : ∃ o : Int, ((({ data := #[40, 91, 123] } : ByteArray)[2].toNat : Nat) : Int) = o := ⟨_, rfl⟩
  rw [ho]
  clear ho hk3
  go_loopw [12, 13] (fun h i wr => Below T W0 wr ∧ T < wr.heap.size ∧ (wr.frozen? ⟨T, 0, none⟩ = false ∧ wr.frozen? ⟨T, 1, none⟩ = false ∧ wr.frozen? ⟨T, 2, none⟩ = false ∧ wr.frozen? ⟨T, 3, none⟩ = false ∧ wr.frozen? ⟨T, 4, none⟩ = false) ∧ ∃ (k : Nat) (la lb lx ly : Int), 1 ≤ k ∧ k ≤ 12 ∧ i = .int .i64 k ∧
    (wr.cell? ⟨T, 0, none⟩ = some (.int .i64 0) ∧ wr.cell? ⟨T, 1, none⟩ = some (.int .i64 la) ∧ wr.cell? ⟨T, 2, none⟩ = some (.int .i64 lb) ∧ wr.cell? ⟨T, 3, none⟩ = some (.int .i64 lx) ∧ wr.cell? ⟨T, 4, none⟩ = some (.int .i64 (ly + 1))) ∧
    ((k = 1 ∧ h = .bool false) ∨ (2 ≤ k ∧ h = .bool true ∧ Hid (enclP L pl pc o ((k : Int) - 1) = (((la, lb), (lx, ly)), true)))))
    (fun _ i _ => (12 - intOf i).toNat)
  case atStart => exact ⟨Below.refl _ _, cell_lt4 t0, ⟨f0, f1, f2, f3, f4⟩, 1, 0, 0, 0, -1, by omega, by omega, rfl, ⟨t0, t1, t2, t3, by rw [t4]; rfl⟩, .inl ⟨rfl, rfl⟩⟩
  case round =>
    obtain ⟨hbr, hTr, ⟨y0, y1, y2, y3, y4⟩, k, la, lb, lx, ly, hk1, hk2, rfl, ⟨r0, r1, r2, r3, r4⟩, hcase⟩ := hrel
    have hbw : Below W.heap.size W wr := hbel.trans (hbr.mono hTW)
    have hLr : LinesAt wr a L := hL.below hbw (Nat.le_refl _)
    have pr0 : wr.cell? ⟨Bp, 0, none⟩ = some (.int .i64 pl) := (hbr.cell (p := ⟨Bp, 0, none⟩) hBT).trans p0
    have pr1 : wr.cell? ⟨Bp, 1, none⟩ = some (.int .i64 pc) := (hbr.cell (p := ⟨Bp, 1, none⟩) hBT).trans p1
    have hBr : Bp < wr.heap.size := by omega
    by_cases hlt : k < 12
    · have hltI : (k : Int) < 12 := by omega
      have hk0 : (0 : Int) ≤ (k : Int) := by omega
      obtain ⟨⟨z1, z2, z3, z4, z5⟩, ok, hbk⟩ : ∃ (r : Rng) (ok : Bool), bracketP L pl pc o k true = (r, ok) := ⟨_, _, rfl⟩
      cases ok with
      | false =>
        have HB1 := Lib.hid hbk
        have HB2 : Hid (bracketP L pl pc o ((k : Int) + 1) true = ((0, 0, 0, 0, 0), false)) := Lib.hid (bracket_stops (by omega) hbk)
        clear hbk
        go_wp2_with fail
        go_at_call 60; refine (baround_any _ _ L _ _ _ _ _ (by (repeat (first | assumption | refine LinesAt.ovr ?_ _ | refine LinesAt.alloc ?_ _ | refine LinesAt.drewN ?_ _ | refine LinesAt.drew ?_))) (by omega) (by omega)).mono ?_; rw [HB1.out]; rintro e w1 ⟨rfl, hbl⟩; obtain ⟨x1, rfl⟩ := ovr_of_below hbl; clear hbl
        go_wp2_with fail
        go_at_call 60; refine (baround_any _ _ L _ _ _ _ _ (by (repeat (first | assumption | refine LinesAt.ovr ?_ _ | refine LinesAt.alloc ?_ _ | refine LinesAt.drewN ?_ _ | refine LinesAt.drew ?_))) (by omega) (by omega)).mono ?_; rw [HB2.out]; rintro e w1 ⟨rfl, hbl⟩; obtain ⟨x2, rfl⟩ := ovr_of_below hbl; clear hbl
        go_wp2
        go_ret
        exact ⟨rfl, by (repeat (first | with_reducible exact hbw | (with_reducible refine below_ovr_le ?_ ?_ _; rotate_left; · (first | omega | (simp; done) | (simp; omega))) | (with_reducible refine Below.alloc ?_ ?_ _; rotate_left; · (first | omega | (simp; done) | (simp; omega))) | (with_reducible refine Below.setCell ?_ ?_ _; rotate_left; · (first | omega | (simp; done) | (simp; omega))) | with_reducible refine drew_below ?_ _ | with_reducible refine Below.drew ?_))⟩
      | true =>
        obtain ⟨a', b', x', y', hb, he, hr⟩ := bracketP_way hbk
        simp only [Prod.mk.injEq] at hr
        obtain ⟨h1, h2, h3, h4, h5⟩ := hr
        subst h1
        obtain rfl := h2.symm
        obtain rfl := h3.symm
        obtain rfl := h4.symm
        subst h5
        have HB1 := Lib.hid hbk
        have HE := Lib.hid he
        rcases hcase with ⟨hke, rfl⟩ | ⟨hk3', rfl, HP⟩
        · clear hbk he hb hke
          go_wp2_with fail
          go_at_call 60; refine (baround_any _ _ L _ _ _ _ _ (by (repeat (first | assumption | refine LinesAt.ovr ?_ _ | refine LinesAt.alloc ?_ _ | refine LinesAt.drewN ?_ _ | refine LinesAt.drew ?_))) (by omega) (by omega)).mono ?_; rw [HB1.out]; rintro e w1 ⟨rfl, hbl⟩; obtain ⟨x1, rfl⟩ := ovr_of_below hbl; clear hbl
          go_wp2
          go_roundw
          case rel =>
            refine ⟨by (repeat (first | with_reducible exact hbr | (with_reducible refine below_ovr_le ?_ ?_ _; rotate_left; · (first | omega | (simp; done) | (simp; omega))) | (with_reducible refine Below.alloc ?_ ?_ _; rotate_left; · (first | omega | (simp; done) | (simp; omega))) | (with_reducible refine Below.setCell ?_ ?_ _; rotate_left; · (first | omega | (simp; done) | (simp; omega))) | with_reducible refine drew_below ?_ _ | with_reducible refine Below.drew ?_)), by simp; omega, ⟨by simp [go_sem, y0, hTr], by simp [go_sem, y1, hTr], by simp [go_sem, y2, hTr], by simp [go_sem, y3, hTr], by simp [go_sem, y4, hTr]⟩, k + 1, a', b', x', y', by omega, by omega, by go_num, ⟨by simp [go_sem, r0, hTr], by simp [go_sem, r1, hTr], by simp [go_sem, r2, hTr], by simp [go_sem, r3, hTr], by simp [go_sem, r4, hTr]⟩, .inr ⟨by omega, rfl, ?_⟩⟩
            exact Lib.hid (by rw [show ((k + 1 : Nat) : Int) - 1 = (k : Int) by omega]; exact HE.out)
          case measure => simp [intOf]; omega
        · obtain ⟨l1, l2⟩ := encl_deep (n := (k : Int) - 1) (by omega) HP.out (by rw [show (k : Int) - 1 + 1 = (k : Int) by omega]; exact he)
          have HL1 := Lib.hid l1
          have HL2 : Hid (lessB lx (ly + 1) x' (y' + 1) = true) := Lib.hid ((lessB_succ _ _ _ _).trans l2)
          clear hbk he hb l1 l2
          go_wp2_with fail
          go_at_call 60; refine (baround_any _ _ L _ _ _ _ _ (by (repeat (first | assumption | refine LinesAt.ovr ?_ _ | refine LinesAt.alloc ?_ _ | refine LinesAt.drewN ?_ _ | refine LinesAt.drew ?_))) (by omega) (by omega)).mono ?_; rw [HB1.out]; rintro e w1 ⟨rfl, hbl⟩; obtain ⟨x1, rfl⟩ := ovr_of_below hbl; clear hbl
          go_wp2_with fail
          go_at_call 62; refine (less17_any _ _ _ _ _).mono ?_; rw [HL1.out]; rintro e w1 ⟨rfl, hbl⟩; obtain ⟨x2, rfl⟩ := ovr_of_below hbl; clear hbl
          go_wp2_with fail
          go_at_call 62; refine (less17_any _ _ _ _ _).mono ?_; rw [HL2.out]; rintro e w1 ⟨rfl, hbl⟩; obtain ⟨x3, rfl⟩ := ovr_of_below hbl; clear hbl
          go_wp2
          go_roundw
          case rel =>
            refine ⟨by (repeat (first | with_reducible exact hbr | (with_reducible refine below_ovr_le ?_ ?_ _; rotate_left; · (first | omega | (simp; done) | (simp; omega))) | (with_reducible refine Below.alloc ?_ ?_ _; rotate_left; · (first | omega | (simp; done) | (simp; omega))) | (with_reducible refine Below.setCell ?_ ?_ _; rotate_left; · (first | omega | (simp; done) | (simp; omega))) | with_reducible refine drew_below ?_ _ | with_reducible refine Below.drew ?_)), by simp; omega, ⟨by simp [go_sem, y0, hTr], by simp [go_sem, y1, hTr], by simp [go_sem, y2, hTr], by simp [go_sem, y3, hTr], by simp [go_sem, y4, hTr]⟩, k + 1, a', b', x', y', by omega, by omega, by go_num, ⟨by simp [go_sem, r0, hTr], by simp [go_sem, r1, hTr], by simp [go_sem, r2, hTr], by simp [go_sem, r3, hTr], by simp [go_sem, r4, hTr]⟩, .inr ⟨by omega, rfl, ?_⟩⟩
            exact Lib.hid (by rw [show ((k + 1 : Nat) : Int) - 1 = (k : Int) by omega]; exact HE.out)
          case measure => simp [intOf]; omega
    · have e12 : k = 12 := by omega
      have hge : ¬ (k : Int) < 12 := by omega
      clear e12
      go_wp2
      go_ret
      exact ⟨rfl, by (repeat (first | with_reducible exact hbw | (with_reducible refine below_ovr_le ?_ ?_ _; rotate_left; · (first | omega | (simp; done) | (simp; omega))) | (with_reducible refine Below.alloc ?_ ?_ _; rotate_left; · (first | omega | (simp; done) | (simp; omega))) | (with_reducible refine Below.setCell ?_ ?_ _; rotate_left; · (first | omega | (simp; done) | (simp; omega))) | with_reducible refine drew_below ?_ _ | with_reducible refine Below.drew ?_))⟩
theorem bracketDeep_walk (a : Option Addr) (cap : Nat) (L : List ByteArray) (sa sb sk : Int) (W : World) (hL : LinesAt W a L) (hsa : 0 ≤ sa ∧ sa ≤ 65535) (hsb : 0 ≤ sb ∧ sb ≤ 65535) (hsk : 0 ≤ sk ∧ sk ≤ 255) :
    Calls Try.prog 18 #[.slice a L.length cap, .int .u16 sa, .int .u16 sb, .int .u8 sk] W fun e W' => e = .returned (.bool true) ∧ Below W.heap.size W W' := by
  cases hli : textB L with
  | false =>
    go_enter Try.func18, Try.ntmps18
    go_wp2_with (first | (go_at_call 57; refine (known17_any _).mono ?_; rintro e w1 ⟨rfl, hbl⟩; obtain ⟨x, rfl⟩ := ovr_of_below hbl; clear hbl) | (go_at_call 20; refine (text_any _ _ L _ (by (repeat (first | assumption | refine LinesAt.ovr ?_ _ | refine LinesAt.alloc ?_ _ | refine LinesAt.drewN ?_ _ | refine LinesAt.drew ?_)))).mono ?_; rintro e w1 ⟨rfl, rfl⟩))
    go_ret
    exact ⟨rfl, by (repeat (first | exact Below.refl _ _ | refine Below.alloc ?_ (by first | exact Nat.le_refl _ | (simp; done) | (simp; omega)) _ | refine below_ovr_of ?_ | refine drew_below ?_ _ | refine Below.drew ?_ | refine Below.setCell ?_ (by first | exact Nat.le_refl _ | (simp; done) | (simp; omega)) _ | assumption))⟩
  | true =>
    rcases (by omega : sk % 3 = 0 ∨ sk % 3 = 1 ∨ sk % 3 = 2) with h | h | h
    · exact bracketDeep_at0 a cap L sa sb sk W hL hsa hsb hsk h hli
    · exact bracketDeep_at1 a cap L sa sb sk W hL hsa hsb hsk h hli
    · exact bracketDeep_at2 a cap L sa sb sk W hL hsa hsb hsk h hli
end Go.Proofs.Ytnaikdmkabfnlaa
