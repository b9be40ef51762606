/- Several texts in one: Quote5. Conditions: none beyond what each says. -/
import Derived.Test.YtlbbgocggifjaaaOI28
import Derived.Test.YtlbbgocggifjaaaBelV
namespace Go.Proofs.Ytlbbgocggifjaaa
open Go.RowKit

@[go_sem] theorem frozen?_ovr5 (w x : World) (n b o : Nat) (h : b < w.heap.size) : (ovr (w.drewN n) x).frozen? ⟨b, o, none⟩ = w.frozen? ⟨b, o, none⟩ := frozen?_ovr (w.drewN n) x b o h
@[go_sem] theorem cell?_ovr5 (w x : World) (n b o : Nat) (h : b < w.heap.size) : (ovr (w.drewN n) x).cell? ⟨b, o, none⟩ = w.cell? ⟨b, o, none⟩ := cell?_ovr (w.drewN n) x b o h
@[go_sem] theorem setCell_ovr5 (w x : World) (n b o : Nat) (v : Value) (h : b < w.heap.size) : (ovr (w.drewN n) x).setCell ⟨b, o, none⟩ v = ovr ((w.setCell ⟨b, o, none⟩ v).drewN n) x := setCell_ovr (w.drewN n) x b o v h
@[go_sem] theorem size_setCell5 (w : World) (p : Addr) (v : Value) : (w.setCell p v).heap.size = w.heap.size := by simp [World.setCell]
theorem drewN5 (w : World) (n m : Nat) : (w.drewN n).drewN m = w.drewN (n + m) := by simp [World.drewN, Nat.add_assoc]
theorem find_drop {α : Type} {d : α} {p : α → Bool} {R : List α} {k : Nat} (h : k < R.length) : (R.drop k).find? p = if p (R.getD k d) = true then some (R.getD k d) else (R.drop (k + 1)).find? p := by
  rw [List.drop_eq_getElem_cons h, List.find?_cons, List.getD_eq_getElem?_getD, List.getElem?_eq_getElem h]
  simp only [Option.getD_some]
  cases p R[k] <;> simp

set_option maxRecDepth 100000 in
set_option maxHeartbeats 4000000 in
theorem rqinner_any (a : Option Addr) (cap : Nat) (L : List ByteArray) (pl pc q : Int) (w : World) (hL : LinesAt w a L) (htot : total L ≤ 100000) :
    Calls Try.prog 33 #[.slice a L.length cap, .agg #[.int .i64 pl, .int .i64 pc], .int .u8 q, .bool false] w fun e w' => e = .returned (rngV (quoteP L pl pc q false)) ∧ Below w.heap.size w w' := by
  have hn := hL.2.1
  cases hb : byteB L pl pc with
  | false =>
    have HON : Hid ((byteB L pl pc && decide ((1 : Int) ≤ 1)) = false) := Lib.hid (by rw [hb]; rfl)
    have HY := Lib.hid (quoteP_no (q := q) (around := false) hb)
    clear hb
    go_enter Try.func33, Try.ntmps33
    go_wp2_with (go_at_call 100; refine (on_at _ _ L _ _ _ _ (by (repeat (first | assumption | refine LinesAt.ovr ?_ _ | refine LinesAt.alloc ?_ _ | refine LinesAt.drewN ?_ _ | refine LinesAt.drew ?_))) HON).mono ?_; rintro e w1 ⟨rfl, hbl⟩; obtain ⟨x, rfl⟩ := ovr_of_below hbl; clear hbl)
    refine bodyPost_ret (v := rngV noR) (by simp [results, Try.results33, go_sem, noR]) rfl ⟨by rw [HY.out], by (repeat (first | with_reducible exact Below.refl _ _ | (with_reducible refine Below.setCell ?_ ?_ _; rotate_left; · (first | exact Nat.le_refl _ | assumption | omega | (simp; done) | (simp; omega))) | (with_reducible refine Below.alloc ?_ ?_ _; rotate_left; · (first | exact Nat.le_refl _ | assumption | omega | (simp; done) | (simp; omega))) | with_reducible refine below_ovr_of ?_ | with_reducible refine drew_below ?_ _ | with_reducible refine Below.drew ?_ | with_reducible assumption))⟩
  | true =>
    obtain ⟨l, c, rfl, rfl, hl, hc, hp⟩ := byteB_spec hb
    have hy := quoteP_yes (q := q) (around := false) hb rfl
    have hst := size_le_total L l hl
    obtain ⟨b, off, s, rfl, hbb, hcell, hss, HS⟩ := line_facts' hL hl
    rw [HS.out] at hy hc hst
    have hlI : (l : Int) < (L.length : Int) := by omega
    have hl0 : (0 : Int) ≤ (l : Int) := by omega
    have HON : Hid ((byteB L l c && decide ((1 : Int) ≤ 1)) = true) := Lib.hid (by rw [hb]; rfl)
    obtain ⟨T, hT⟩ : ∃ T, pairQ s q c = T := ⟨_, rfl⟩
    rw [hT] at hy
    have hmem : ∀ p ∈ qpF s q none 0, p.1 < p.2 ∧ p.2 < s.size := fun p hp => by
      obtain ⟨h1, h2, _, _⟩ := qpF_in _ none 0 rfl (fun a e => by cases e) p hp
      exact ⟨h1, h2⟩
    obtain ⟨R, hR⟩ : ∃ R, qpF s q none 0 = R := ⟨_, rfl⟩
    rw [hR] at hmem
    have hRl : R.length ≤ 100000 := by have := qpF_len (s := s) (q := q) _ none 0 rfl; rw [hR] at this; omega
    rw [pairQ, hR] at hT
    have HM := Lib.hid hmem
    have HT := Lib.hid hT
    have HYT0 := Lib.hid hy
    have HQ2 := fun (w0 : World) => rqpairs_any s q w0 (by omega)
    rw [hR] at HQ2
    have HQQ := Lib.hid HQ2
    clear hb hy hp hT hmem hR HQ2
    go_enter Try.func33, Try.ntmps33
    go_wp2_with (go_at_call 100; refine (on_at _ _ L _ _ _ _ (by (repeat (first | assumption | refine LinesAt.ovr ?_ _ | refine LinesAt.alloc ?_ _ | refine LinesAt.drewN ?_ _ | refine LinesAt.drew ?_))) HON).mono ?_; rintro e w1 ⟨rfl, hbl⟩; obtain ⟨x, rfl⟩ := ovr_of_below hbl; clear hbl)
    go_at_call 28; refine (HQQ.out _).mono ?_; rintro e w1 ⟨ra, rcap, rfl, hpa, hbl⟩; obtain ⟨x1, rfl⟩ := ovr_of_below hbl; clear hbl
    go_wp2
    refine name_world ?_
    intro W0 hW
    have hpa0 : PairsAt W0 ra R := by rw [hW]; exact hpa
    have c0 : W0.cell? ⟨w.heap.size, 0, none⟩ = some (.int .i64 l) := by rw [hW]; simp [go_sem]
    have c1 : W0.cell? ⟨w.heap.size, 1, none⟩ = some (.int .i64 c) := by rw [hW]; simp [go_sem]
    have z0 : W0.cell? ⟨w.heap.size + 1, 0, none⟩ = some (.int .i64 0) := by rw [hW]; simp [go_sem]
    have z1 : W0.cell? ⟨w.heap.size + 1, 1, none⟩ = some (.int .i64 0) := by rw [hW]; simp [go_sem]
    have z2 : W0.cell? ⟨w.heap.size + 1, 2, none⟩ = some (.int .i64 0) := by rw [hW]; simp [go_sem]
    have z3 : W0.cell? ⟨w.heap.size + 1, 3, none⟩ = some (.int .i64 0) := by rw [hW]; simp [go_sem]
    have z4 : W0.cell? ⟨w.heap.size + 1, 4, none⟩ = some (.int .i64 0) := by rw [hW]; simp [go_sem]
    have v0 : W0.frozen? ⟨w.heap.size + 1, 0, none⟩ = false := by rw [hW]; simp [go_sem]
    have v1 : W0.frozen? ⟨w.heap.size + 1, 1, none⟩ = false := by rw [hW]; simp [go_sem]
    have v2 : W0.frozen? ⟨w.heap.size + 1, 2, none⟩ = false := by rw [hW]; simp [go_sem]
    have v3 : W0.frozen? ⟨w.heap.size + 1, 3, none⟩ = false := by rw [hW]; simp [go_sem]
    have v4 : W0.frozen? ⟨w.heap.size + 1, 4, none⟩ = false := by rw [hW]; simp [go_sem]
    have hbel : Below w.heap.size w W0 := by rw [hW]; (repeat (first | with_reducible exact Below.refl _ _ | (with_reducible refine Below.setCell ?_ ?_ _; rotate_left; · (first | exact Nat.le_refl _ | assumption | omega | (simp; done) | (simp; omega))) | (with_reducible refine Below.alloc ?_ ?_ _; rotate_left; · (first | exact Nat.le_refl _ | assumption | omega | (simp; done) | (simp; omega))) | with_reducible refine below_ovr_of ?_ | with_reducible refine drew_below ?_ _ | with_reducible refine Below.drew ?_ | with_reducible assumption))
    have zs : w.heap.size + 1 < W0.heap.size := by rw [hW]; simp; omega
    clear hW hpa
    go_loopw [12] (fun i wr => ∃ k : Nat, k ≤ R.length ∧ i = .int .i64 k ∧ Hid ((R.drop k).find? (fun p => decide ((c : Int) ≤ (p.2 : Int))) = T) ∧ ∃ n, wr = W0.drewN n) (fun i _ => R.length - (intOf i).toNat)
    case atStart => exact ⟨0, Nat.zero_le _, rfl, by rw [List.drop_zero]; exact HT, 0, rfl⟩
    case round =>
      obtain ⟨k, hk, rfl, HK, n1, rfl⟩ := hrel
      by_cases hlt : k < R.length
      · obtain ⟨g, rfl, hg, e1, e2⟩ := hpa0 k hlt
        obtain ⟨⟨fx, fy⟩, hxy⟩ : ∃ p, R.getD k (0, 0) = p := ⟨_, rfl⟩
        have hdk := find_drop (d := ((0, 0) : Nat × Nat)) (p := fun p => decide ((c : Int) ≤ (p.2 : Int))) hlt
        rw [hxy] at e1 e2 hdk
        simp only at e1 e2
        obtain ⟨m1, m2⟩ := HM.out _ (getD_mem R (0, 0) k hlt)
        rw [hxy] at m1 m2
        simp only at m1 m2
        have hltI : (k : Int) < (R.length : Int) := by omega
        have hk0 : (0 : Int) ≤ (k : Int) := by omega
        clear hxy
        by_cases hcy : c ≤ fy
        · have t1 : decide (fy < c) = false := decide_eq_false (by omega)
          have HYT : Hid (quoteP L l c q false = quoteO s l false (some (fx, fy))) := Lib.hid (by rw [HYT0.out, ← HK.out, hdk]; simp [hcy])
          have g4 : (0 : Int) ≤ (fy : Int) := by omega
          have g5 : (fy : Int) ≤ 100000 := by omega
          have g6 : (0 : Int) ≤ (fx : Int) := by omega
          have g7 : (fx : Int) ≤ 100000 := by omega
          clear hcy hdk HYT0 HK
          go_wp2
          go_quiet (fail)
          go_wp2
          go_quiet (fail)
          have HY : Hid (quoteP L l c q false = ((0, (l : Int), (fx : Int) + 1, (l : Int), (fy : Int)), true)) := HYT
          go_wp2_with (go_at_call 102; refine (in_any _ _ _ _).mono ?_; rintro e w1 ⟨rfl, hbl⟩; obtain ⟨x, rfl⟩ := ovr_of_below hbl; clear hbl)
          refine bodyPost_ret (v := rngV ((0, (l : Int), (fx : Int) + 1, (l : Int), (fy : Int)), true)) (by simp [results, Try.results33, go_sem, z0, z1, z2, z3, z4, zs]) rfl ⟨by rw [HY.out], by (repeat (first | with_reducible exact hbel | (with_reducible refine below_ovr_le ?_ ?_ _; rotate_left; · (first | omega | (simp; done) | (simp; omega))) | (with_reducible refine Below.alloc ?_ ?_ _; rotate_left; · (first | omega | (simp; done) | (simp; omega))) | (with_reducible refine Below.setCell ?_ ?_ _; rotate_left; · (first | omega | (simp; done) | (simp; omega))) | with_reducible refine drew_below ?_ _ | with_reducible refine Below.drew ?_))⟩
        · have t1 : (fy : Int) < (c : Int) := by omega
          have HK2 : Hid ((R.drop (k + 1)).find? (fun p => decide ((c : Int) ≤ (p.2 : Int))) = T) := Lib.hid (by rw [← HK.out, hdk]; simp [hcy])
          clear hcy hdk HK
          go_wp2
          go_quiet (fail)
          go_wp2
          go_roundw
          case rel => exact ⟨k + 1, by omega, by go_num, HK2, _, rfl⟩
          case measure => simp [intOf]; omega
      · have HY : Hid (quoteP L l c q false = noR) := Lib.hid (by rw [HYT0.out, ← HK.out, List.drop_of_length_le (by omega)]; rfl)
        go_wp2
        refine bodyPost_ret (v := rngV noR) (by simp [results, Try.results33, go_sem, noR, z0, z1, z2, z3, z4]) rfl ⟨by rw [HY.out], by (repeat (first | with_reducible exact hbel | (with_reducible refine below_ovr_le ?_ ?_ _; rotate_left; · (first | omega | (simp; done) | (simp; omega))) | (with_reducible refine Below.alloc ?_ ?_ _; rotate_left; · (first | omega | (simp; done) | (simp; omega))) | (with_reducible refine Below.setCell ?_ ?_ _; rotate_left; · (first | omega | (simp; done) | (simp; omega))) | with_reducible refine drew_below ?_ _ | with_reducible refine Below.drew ?_))⟩

set_option maxRecDepth 100000 in
set_option maxHeartbeats 4000000 in
theorem rqaround_any (a : Option Addr) (cap : Nat) (L : List ByteArray) (pl pc q : Int) (w : World) (hL : LinesAt w a L) (htot : total L ≤ 100000) :
    Calls Try.prog 33 #[.slice a L.length cap, .agg #[.int .i64 pl, .int .i64 pc], .int .u8 q, .bool true] w fun e w' => e = .returned (rngV (quoteP L pl pc q true)) ∧ Below w.heap.size w w' := by
  have hn := hL.2.1
  cases hb : byteB L pl pc with
  | false =>
    have HON : Hid ((byteB L pl pc && decide ((1 : Int) ≤ 1)) = false) := Lib.hid (by rw [hb]; rfl)
    have HY := Lib.hid (quoteP_no (q := q) (around := true) hb)
    clear hb
    go_enter Try.func33, Try.ntmps33
    go_wp2_with (go_at_call 100; refine (on_at _ _ L _ _ _ _ (by (repeat (first | assumption | refine LinesAt.ovr ?_ _ | refine LinesAt.alloc ?_ _ | refine LinesAt.drewN ?_ _ | refine LinesAt.drew ?_))) HON).mono ?_; rintro e w1 ⟨rfl, hbl⟩; obtain ⟨x, rfl⟩ := ovr_of_below hbl; clear hbl)
    refine bodyPost_ret (v := rngV noR) (by simp [results, Try.results33, go_sem, noR]) rfl ⟨by rw [HY.out], by (repeat (first | with_reducible exact Below.refl _ _ | (with_reducible refine Below.setCell ?_ ?_ _; rotate_left; · (first | exact Nat.le_refl _ | assumption | omega | (simp; done) | (simp; omega))) | (with_reducible refine Below.alloc ?_ ?_ _; rotate_left; · (first | exact Nat.le_refl _ | assumption | omega | (simp; done) | (simp; omega))) | with_reducible refine below_ovr_of ?_ | with_reducible refine drew_below ?_ _ | with_reducible refine Below.drew ?_ | with_reducible assumption))⟩
  | true =>
    obtain ⟨l, c, rfl, rfl, hl, hc, hp⟩ := byteB_spec hb
    have hy := quoteP_yes (q := q) (around := true) hb rfl
    have hst := size_le_total L l hl
    obtain ⟨b, off, s, rfl, hbb, hcell, hss, HS⟩ := line_facts' hL hl
    rw [HS.out] at hy hc hst
    have hlI : (l : Int) < (L.length : Int) := by omega
    have hl0 : (0 : Int) ≤ (l : Int) := by omega
    have HON : Hid ((byteB L l c && decide ((1 : Int) ≤ 1)) = true) := Lib.hid (by rw [hb]; rfl)
    obtain ⟨T, hT⟩ : ∃ T, pairQ s q c = T := ⟨_, rfl⟩
    rw [hT] at hy
    have hmem : ∀ p ∈ qpF s q none 0, p.1 < p.2 ∧ p.2 < s.size := fun p hp => by
      obtain ⟨h1, h2, _, _⟩ := qpF_in _ none 0 rfl (fun a e => by cases e) p hp
      exact ⟨h1, h2⟩
    obtain ⟨R, hR⟩ : ∃ R, qpF s q none 0 = R := ⟨_, rfl⟩
    rw [hR] at hmem
    have hRl : R.length ≤ 100000 := by have := qpF_len (s := s) (q := q) _ none 0 rfl; rw [hR] at this; omega
    rw [pairQ, hR] at hT
    have HM := Lib.hid hmem
    have HT := Lib.hid hT
    have HYT0 := Lib.hid hy
    have HQ2 := fun (w0 : World) => rqpairs_any s q w0 (by omega)
    rw [hR] at HQ2
    have HQQ := Lib.hid HQ2
    clear hb hy hp hT hmem hR HQ2
    go_enter Try.func33, Try.ntmps33
    go_wp2_with (go_at_call 100; refine (on_at _ _ L _ _ _ _ (by (repeat (first | assumption | refine LinesAt.ovr ?_ _ | refine LinesAt.alloc ?_ _ | refine LinesAt.drewN ?_ _ | refine LinesAt.drew ?_))) HON).mono ?_; rintro e w1 ⟨rfl, hbl⟩; obtain ⟨x, rfl⟩ := ovr_of_below hbl; clear hbl)
    go_at_call 28; refine (HQQ.out _).mono ?_; rintro e w1 ⟨ra, rcap, rfl, hpa, hbl⟩; obtain ⟨x1, rfl⟩ := ovr_of_below hbl; clear hbl
    go_wp2
    refine name_world ?_
    intro W0 hW
    have hpa0 : PairsAt W0 ra R := by rw [hW]; exact hpa
    have c0 : W0.cell? ⟨w.heap.size, 0, none⟩ = some (.int .i64 l) := by rw [hW]; simp [go_sem]
    have c1 : W0.cell? ⟨w.heap.size, 1, none⟩ = some (.int .i64 c) := by rw [hW]; simp [go_sem]
    have z0 : W0.cell? ⟨w.heap.size + 1, 0, none⟩ = some (.int .i64 0) := by rw [hW]; simp [go_sem]
    have z1 : W0.cell? ⟨w.heap.size + 1, 1, none⟩ = some (.int .i64 0) := by rw [hW]; simp [go_sem]
    have z2 : W0.cell? ⟨w.heap.size + 1, 2, none⟩ = some (.int .i64 0) := by rw [hW]; simp [go_sem]
    have z3 : W0.cell? ⟨w.heap.size + 1, 3, none⟩ = some (.int .i64 0) := by rw [hW]; simp [go_sem]
    have z4 : W0.cell? ⟨w.heap.size + 1, 4, none⟩ = some (.int .i64 0) := by rw [hW]; simp [go_sem]
    have v0 : W0.frozen? ⟨w.heap.size + 1, 0, none⟩ = false := by rw [hW]; simp [go_sem]
    have v1 : W0.frozen? ⟨w.heap.size + 1, 1, none⟩ = false := by rw [hW]; simp [go_sem]
    have v2 : W0.frozen? ⟨w.heap.size + 1, 2, none⟩ = false := by rw [hW]; simp [go_sem]
    have v3 : W0.frozen? ⟨w.heap.size + 1, 3, none⟩ = false := by rw [hW]; simp [go_sem]
    have v4 : W0.frozen? ⟨w.heap.size + 1, 4, none⟩ = false := by rw [hW]; simp [go_sem]
    have hbel : Below w.heap.size w W0 := by rw [hW]; (repeat (first | with_reducible exact Below.refl _ _ | (with_reducible refine Below.setCell ?_ ?_ _; rotate_left; · (first | exact Nat.le_refl _ | assumption | omega | (simp; done) | (simp; omega))) | (with_reducible refine Below.alloc ?_ ?_ _; rotate_left; · (first | exact Nat.le_refl _ | assumption | omega | (simp; done) | (simp; omega))) | with_reducible refine below_ovr_of ?_ | with_reducible refine drew_below ?_ _ | with_reducible refine Below.drew ?_ | with_reducible assumption))
    have zs : w.heap.size + 1 < W0.heap.size := by rw [hW]; simp; omega
    clear hW hpa
    go_loopw [12] (fun i wr => ∃ k : Nat, k ≤ R.length ∧ i = .int .i64 k ∧ Hid ((R.drop k).find? (fun p => decide ((c : Int) ≤ (p.2 : Int))) = T) ∧ ∃ n, wr = W0.drewN n) (fun i _ => R.length - (intOf i).toNat)
    case atStart => exact ⟨0, Nat.zero_le _, rfl, by rw [List.drop_zero]; exact HT, 0, rfl⟩
    case round =>
      obtain ⟨k, hk, rfl, HK, n1, rfl⟩ := hrel
      by_cases hlt : k < R.length
      · obtain ⟨g, rfl, hg, e1, e2⟩ := hpa0 k hlt
        obtain ⟨⟨fx, fy⟩, hxy⟩ : ∃ p, R.getD k (0, 0) = p := ⟨_, rfl⟩
        have hdk := find_drop (d := ((0, 0) : Nat × Nat)) (p := fun p => decide ((c : Int) ≤ (p.2 : Int))) hlt
        rw [hxy] at e1 e2 hdk
        simp only at e1 e2
        obtain ⟨m1, m2⟩ := HM.out _ (getD_mem R (0, 0) k hlt)
        rw [hxy] at m1 m2
        simp only at m1 m2
        have hltI : (k : Int) < (R.length : Int) := by omega
        have hk0 : (0 : Int) ≤ (k : Int) := by omega
        clear hxy
        by_cases hcy : c ≤ fy
        · have t1 : decide (fy < c) = false := decide_eq_false (by omega)
          have HYT : Hid (quoteP L l c q true = quoteO s l true (some (fx, fy))) := Lib.hid (by rw [HYT0.out, ← HK.out, hdk]; simp [hcy])
          have g4 : (0 : Int) ≤ (fy : Int) := by omega
          have g5 : (fy : Int) ≤ 100000 := by omega
          have g6 : (0 : Int) ≤ (fx : Int) := by omega
          have g7 : (fx : Int) ≤ 100000 := by omega
          clear hcy hdk HYT0 HK
          go_wp2
          go_quiet (fail)
          go_wp2
          go_quiet (fail)
          obtain ⟨E, hE⟩ : ∃ E, skipF s (fy + 1) = E := ⟨_, rfl⟩
          obtain ⟨F, hF⟩ : ∃ F, (if E = fy + 1 then skipB s fx else fx) = F := ⟨_, rfl⟩
          have HY : Hid (quoteP L l c q true = ((0, (l : Int), (F : Int), (l : Int), (E : Int)), true)) := Lib.hid (HYT.out.trans (by rw [quoteO, if_pos rfl, hE, hF]))
          have HE := Lib.hid hE
          have HF := Lib.hid hF
          clear hE hF
          go_wp2
          go_quiet (fail)
          go_wp2
          go_loopw [14] (fun i wr => ∃ k : Nat, fy + 1 ≤ k ∧ k ≤ s.size ∧ i = .int .i64 k ∧ Hid (skipF s k = E) ∧ ∃ n, wr = W0.drewN n) (fun i _ => s.size - (intOf i).toNat)
          case atStart => exact ⟨fy + 1, Nat.le_refl _, by omega, by go_num, HE, _, by (repeat rw [drewN5])⟩
          case round =>
            obtain ⟨k, hk1, hk2, rfl, HK, n2, rfl⟩ := hrel
            by_cases hlt : k < s.size
            · have hltI : (k : Int) < (s.size : Int) := by omega
              have hbt := byt_at' s k hlt
              by_cases hbl0 : ofC (s[k].toNat : Int) true = 0
              · have t1 : (ofC (s[k].toNat : Int) true == 0) = true := by rw [beq_iff_eq]; exact hbl0
                have HK2 : Hid (skipF s (k + 1) = E) := Lib.hid (by rw [← skipF_on hlt (by rw [hbt]; exact hbl0)]; exact HK.out)
                clear hbl0 hbt
                go_wp2_with (go_at_call 101; refine (rof_any _ _ _).mono ?_; rintro e w1 ⟨rfl, rfl⟩)
                go_roundw
                case rel => exact ⟨k + 1, by omega, by omega, by go_num, HK2, _, rfl⟩
                case measure => simp [intOf]; omega
              · have t1 : (ofC (s[k].toNat : Int) true == 0) = false := beq_eq_false_iff_ne.2 hbl0
                have e : k = E := by have := HK.out; rwa [skipF_stop hlt (by rw [hbt]; exact hbl0)] at this
                clear hbl0 hbt
                subst e
                go_wp2_with (go_at_call 101; refine (rof_any _ _ _).mono ?_; rintro e w1 ⟨rfl, rfl⟩)
                go_loopw [13] (fun i wr => ∃ j : Nat, j ≤ fx ∧ i = .int .i64 j ∧ Hid ((if k = fy + 1 then skipB s j else j) = F) ∧ ∃ n, wr = W0.drewN n) (fun i _ => (intOf i).toNat)
                case atStart => exact ⟨fx, Nat.le_refl _, rfl, HF, _, rfl⟩
                case round =>
                  obtain ⟨j, hj, rfl, HJ, n3, rfl⟩ := hrel
                  by_cases hke : k = fy + 1
                  · have HJ1 : Hid (skipB s j = F) := Lib.hid (by have := HJ.out; rwa [if_pos hke] at this)
                    have tk : ((k : Int) == (fy : Int) + 1) = true := by rw [beq_iff_eq]; omega
                    clear HJ
                    by_cases hj0 : j = 0
                    · subst hj0
                      have e : 0 = F := by have := HJ1.out; rwa [skipB_zero] at this
                      subst e
                      clear hke
                      go_wp2_with (first | (go_at_call 101; refine (rof_any _ _ _).mono ?_; rintro e w1 ⟨rfl, rfl⟩) | (go_at_call 102; refine (in_any _ _ _ _).mono ?_; rintro e w1 ⟨rfl, hbl⟩; obtain ⟨x, rfl⟩ := ovr_of_below hbl; clear hbl))
                      refine bodyPost_ret (v := rngV ((0, (l : Int), (0 : Nat), (l : Int), (k : Int)), true)) (by simp [results, Try.results33, go_sem, z0, z1, z2, z3, z4, zs]) rfl ⟨by rw [HY.out], by (repeat (first | with_reducible exact hbel | (with_reducible refine below_ovr_le ?_ ?_ _; rotate_left; · (first | omega | (simp; done) | (simp; omega))) | (with_reducible refine Below.alloc ?_ ?_ _; rotate_left; · (first | omega | (simp; done) | (simp; omega))) | (with_reducible refine Below.setCell ?_ ?_ _; rotate_left; · (first | omega | (simp; done) | (simp; omega))) | with_reducible refine drew_below ?_ _ | with_reducible refine Below.drew ?_))⟩
                    · obtain ⟨i, rfl⟩ : ∃ i, j = i + 1 := ⟨j - 1, by omega⟩
                      have hi : i < s.size := by omega
                      have hiI : (i : Int) < (s.size : Int) := by omega
                      have hi0 : (0 : Int) ≤ (i : Int) := by omega
                      have ei : ((i + 1 : Nat) : Int) - 1 = (i : Int) := by omega
                      have ei0 : decide ((0 : Int) < ((i + 1 : Nat) : Int)) = true := decide_eq_true (by omega)
                      have hbt := byt_at' s i hi
                      by_cases hbl0 : ofC (s[i].toNat : Int) true = 0
                      · have t2 : (ofC (s[i].toNat : Int) true == 0) = true := by rw [beq_iff_eq]; exact hbl0
                        have HJ2 : Hid ((if k = fy + 1 then skipB s i else i) = F) := Lib.hid (by rw [if_pos hke, ← skipB_on (by rw [hbt]; exact hbl0)]; exact HJ1.out)
                        clear hbl0 hbt HJ1 hke
                        go_wp2_with (go_at_call 101; refine (rof_any _ _ _).mono ?_; rintro e w1 ⟨rfl, rfl⟩)
                        go_roundw
                        case rel => exact ⟨i, by omega, by go_num, HJ2, _, rfl⟩
                        case measure => first | (simp [intOf]; done) | (simp [intOf]; omega)
                      · have t2 : (ofC (s[i].toNat : Int) true == 0) = false := beq_eq_false_iff_ne.2 hbl0
                        have e : i + 1 = F := by have := HJ1.out; rwa [skipB_stop (by rw [hbt]; exact hbl0)] at this
                        subst e
                        clear hbl0 hbt HJ1 hke
                        go_wp2_with (first | (go_at_call 101; refine (rof_any _ _ _).mono ?_; rintro e w1 ⟨rfl, rfl⟩) | (go_at_call 102; refine (in_any _ _ _ _).mono ?_; rintro e w1 ⟨rfl, hbl⟩; obtain ⟨x, rfl⟩ := ovr_of_below hbl; clear hbl))
                        refine bodyPost_ret (v := rngV ((0, (l : Int), ((i + 1 : Nat) : Int), (l : Int), (k : Int)), true)) (by simp [results, Try.results33, go_sem, z0, z1, z2, z3, z4, zs]) rfl ⟨by rw [HY.out], by (repeat (first | with_reducible exact hbel | (with_reducible refine below_ovr_le ?_ ?_ _; rotate_left; · (first | omega | (simp; done) | (simp; omega))) | (with_reducible refine Below.alloc ?_ ?_ _; rotate_left; · (first | omega | (simp; done) | (simp; omega))) | (with_reducible refine Below.setCell ?_ ?_ _; rotate_left; · (first | omega | (simp; done) | (simp; omega))) | with_reducible refine drew_below ?_ _ | with_reducible refine Below.drew ?_))⟩
                  · have e : j = F := by have := HJ.out; rwa [if_neg hke] at this
                    have tk : ((k : Int) == (fy : Int) + 1) = false := beq_eq_false_iff_ne.2 (by omega)
                    subst e
                    clear HJ hke
                    go_wp2_with (first | (go_at_call 101; refine (rof_any _ _ _).mono ?_; rintro e w1 ⟨rfl, rfl⟩) | (go_at_call 102; refine (in_any _ _ _ _).mono ?_; rintro e w1 ⟨rfl, hbl⟩; obtain ⟨x, rfl⟩ := ovr_of_below hbl; clear hbl))
                    refine bodyPost_ret (v := rngV ((0, (l : Int), (j : Int), (l : Int), (k : Int)), true)) (by simp [results, Try.results33, go_sem, z0, z1, z2, z3, z4, zs]) rfl ⟨by rw [HY.out], by (repeat (first | with_reducible exact hbel | (with_reducible refine below_ovr_le ?_ ?_ _; rotate_left; · (first | omega | (simp; done) | (simp; omega))) | (with_reducible refine Below.alloc ?_ ?_ _; rotate_left; · (first | omega | (simp; done) | (simp; omega))) | (with_reducible refine Below.setCell ?_ ?_ _; rotate_left; · (first | omega | (simp; done) | (simp; omega))) | with_reducible refine drew_below ?_ _ | with_reducible refine Below.drew ?_))⟩
            · have e : k = E := by have := HK.out; rwa [skipF_end (by omega)] at this
              subst e
              have hge : decide (k < s.size) = false := decide_eq_false hlt
              go_wp2_with (go_at_call 101; refine (rof_any _ _ _).mono ?_; rintro e w1 ⟨rfl, rfl⟩)
              go_loopw [13] (fun i wr => ∃ j : Nat, j ≤ fx ∧ i = .int .i64 j ∧ Hid ((if k = fy + 1 then skipB s j else j) = F) ∧ ∃ n, wr = W0.drewN n) (fun i _ => (intOf i).toNat)
              case atStart => exact ⟨fx, Nat.le_refl _, rfl, HF, _, rfl⟩
              case round =>
                obtain ⟨j, hj, rfl, HJ, n3, rfl⟩ := hrel
                by_cases hke : k = fy + 1
                · have HJ1 : Hid (skipB s j = F) := Lib.hid (by have := HJ.out; rwa [if_pos hke] at this)
                  have tk : ((k : Int) == (fy : Int) + 1) = true := by rw [beq_iff_eq]; omega
                  clear HJ
                  by_cases hj0 : j = 0
                  · subst hj0
                    have e : 0 = F := by have := HJ1.out; rwa [skipB_zero] at this
                    subst e
                    clear hke
                    go_wp2_with (first | (go_at_call 101; refine (rof_any _ _ _).mono ?_; rintro e w1 ⟨rfl, rfl⟩) | (go_at_call 102; refine (in_any _ _ _ _).mono ?_; rintro e w1 ⟨rfl, hbl⟩; obtain ⟨x, rfl⟩ := ovr_of_below hbl; clear hbl))
                    refine bodyPost_ret (v := rngV ((0, (l : Int), (0 : Nat), (l : Int), (k : Int)), true)) (by simp [results, Try.results33, go_sem, z0, z1, z2, z3, z4, zs]) rfl ⟨by rw [HY.out], by (repeat (first | with_reducible exact hbel | (with_reducible refine below_ovr_le ?_ ?_ _; rotate_left; · (first | omega | (simp; done) | (simp; omega))) | (with_reducible refine Below.alloc ?_ ?_ _; rotate_left; · (first | omega | (simp; done) | (simp; omega))) | (with_reducible refine Below.setCell ?_ ?_ _; rotate_left; · (first | omega | (simp; done) | (simp; omega))) | with_reducible refine drew_below ?_ _ | with_reducible refine Below.drew ?_))⟩
                  · obtain ⟨i, rfl⟩ : ∃ i, j = i + 1 := ⟨j - 1, by omega⟩
                    have hi : i < s.size := by omega
                    have hiI : (i : Int) < (s.size : Int) := by omega
                    have hi0 : (0 : Int) ≤ (i : Int) := by omega
                    have ei : ((i + 1 : Nat) : Int) - 1 = (i : Int) := by omega
                    have ei0 : decide ((0 : Int) < ((i + 1 : Nat) : Int)) = true := decide_eq_true (by omega)
                    have hbt := byt_at' s i hi
                    by_cases hbl0 : ofC (s[i].toNat : Int) true = 0
                    · have t2 : (ofC (s[i].toNat : Int) true == 0) = true := by rw [beq_iff_eq]; exact hbl0
                      have HJ2 : Hid ((if k = fy + 1 then skipB s i else i) = F) := Lib.hid (by rw [if_pos hke, ← skipB_on (by rw [hbt]; exact hbl0)]; exact HJ1.out)
                      clear hbl0 hbt HJ1 hke
                      go_wp2_with (go_at_call 101; refine (rof_any _ _ _).mono ?_; rintro e w1 ⟨rfl, rfl⟩)
                      go_roundw
                      case rel => exact ⟨i, by omega, by go_num, HJ2, _, rfl⟩
                      case measure => first | (simp [intOf]; done) | (simp [intOf]; omega)
                    · have t2 : (ofC (s[i].toNat : Int) true == 0) = false := beq_eq_false_iff_ne.2 hbl0
                      have e : i + 1 = F := by have := HJ1.out; rwa [skipB_stop (by rw [hbt]; exact hbl0)] at this
                      subst e
                      clear hbl0 hbt HJ1 hke
                      go_wp2_with (first | (go_at_call 101; refine (rof_any _ _ _).mono ?_; rintro e w1 ⟨rfl, rfl⟩) | (go_at_call 102; refine (in_any _ _ _ _).mono ?_; rintro e w1 ⟨rfl, hbl⟩; obtain ⟨x, rfl⟩ := ovr_of_below hbl; clear hbl))
                      refine bodyPost_ret (v := rngV ((0, (l : Int), ((i + 1 : Nat) : Int), (l : Int), (k : Int)), true)) (by simp [results, Try.results33, go_sem, z0, z1, z2, z3, z4, zs]) rfl ⟨by rw [HY.out], by (repeat (first | with_reducible exact hbel | (with_reducible refine below_ovr_le ?_ ?_ _; rotate_left; · (first | omega | (simp; done) | (simp; omega))) | (with_reducible refine Below.alloc ?_ ?_ _; rotate_left; · (first | omega | (simp; done) | (simp; omega))) | (with_reducible refine Below.setCell ?_ ?_ _; rotate_left; · (first | omega | (simp; done) | (simp; omega))) | with_reducible refine drew_below ?_ _ | with_reducible refine Below.drew ?_))⟩
                · have e : j = F := by have := HJ.out; rwa [if_neg hke] at this
                  have tk : ((k : Int) == (fy : Int) + 1) = false := beq_eq_false_iff_ne.2 (by omega)
                  subst e
                  clear HJ hke
                  go_wp2_with (first | (go_at_call 101; refine (rof_any _ _ _).mono ?_; rintro e w1 ⟨rfl, rfl⟩) | (go_at_call 102; refine (in_any _ _ _ _).mono ?_; rintro e w1 ⟨rfl, hbl⟩; obtain ⟨x, rfl⟩ := ovr_of_below hbl; clear hbl))
                  refine bodyPost_ret (v := rngV ((0, (l : Int), (j : Int), (l : Int), (k : Int)), true)) (by simp [results, Try.results33, go_sem, z0, z1, z2, z3, z4, zs]) rfl ⟨by rw [HY.out], by (repeat (first | with_reducible exact hbel | (with_reducible refine below_ovr_le ?_ ?_ _; rotate_left; · (first | omega | (simp; done) | (simp; omega))) | (with_reducible refine Below.alloc ?_ ?_ _; rotate_left; · (first | omega | (simp; done) | (simp; omega))) | (with_reducible refine Below.setCell ?_ ?_ _; rotate_left; · (first | omega | (simp; done) | (simp; omega))) | with_reducible refine drew_below ?_ _ | with_reducible refine Below.drew ?_))⟩
        · have t1 : (fy : Int) < (c : Int) := by omega
          have HK2 : Hid ((R.drop (k + 1)).find? (fun p => decide ((c : Int) ≤ (p.2 : Int))) = T) := Lib.hid (by rw [← HK.out, hdk]; simp [hcy])
          clear hcy hdk HK
          go_wp2
          go_quiet (fail)
          go_wp2
          go_roundw
          case rel => exact ⟨k + 1, by omega, by go_num, HK2, _, rfl⟩
          case measure => simp [intOf]; omega
      · have HY : Hid (quoteP L l c q true = noR) := Lib.hid (by rw [HYT0.out, ← HK.out, List.drop_of_length_le (by omega)]; rfl)
        go_wp2
        refine bodyPost_ret (v := rngV noR) (by simp [results, Try.results33, go_sem, noR, z0, z1, z2, z3, z4]) rfl ⟨by rw [HY.out], by (repeat (first | with_reducible exact hbel | (with_reducible refine below_ovr_le ?_ ?_ _; rotate_left; · (first | omega | (simp; done) | (simp; omega))) | (with_reducible refine Below.alloc ?_ ?_ _; rotate_left; · (first | omega | (simp; done) | (simp; omega))) | (with_reducible refine Below.setCell ?_ ?_ _; rotate_left; · (first | omega | (simp; done) | (simp; omega))) | with_reducible refine drew_below ?_ _ | with_reducible refine Below.drew ?_))⟩
end Go.Proofs.Ytlbbgocggifjaaa
