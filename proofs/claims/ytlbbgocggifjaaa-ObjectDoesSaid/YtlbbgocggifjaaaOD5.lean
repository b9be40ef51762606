/- Several texts in one: RSObj. Conditions: none beyond what each says. -/
import Derived.Test.YtlbbgocggifjaaaOI36
import Derived.Test.YtlbbgocggifjaaaOI38
import Derived.Deep.RegionHeld3
import Derived.Deep.Cut
namespace Go.Proofs.Ytlbbgocggifjaaa
open Go.RowKit Go.Shelf

theorem getD_mem_take (S : List (Nat × Nat)) (i : Nat) (hi : i < S.length) : S.getD i (0, 0) ∈ S.take (i + 1) := by
  rw [take_snoc_getD S (0, 0) i hi]; simp
set_option maxRecDepth 100000 in
set_option maxHeartbeats 16000000 in
theorem rsobj_any (a : Option Addr) (cap : Nat) (L : List ByteArray) (pl pc : Int) (ar : Bool) (w : World) (hL : LinesAt w a L) (htot : L.length + total L ≤ 100000) :
    Calls Try.prog 86 #[.slice a L.length cap, .agg #[.int .i64 pl, .int .i64 pc], .bool ar] w fun e w' => e = .returned (rngV (sObjP L pl pc ar)) ∧ Below w.heap.size w w' := by
  have hn := hL.2.1
  cases hb : byteB L pl pc with
  | true =>
    obtain ⟨l, c, rfl, rfl, hl⟩ : ∃ l c : Nat, pl = l ∧ pc = c ∧ l < L.length := by
      have hp : plcB L pl pc = true := by
        cases hp : plcB L pl pc with
        | true => rfl
        | false => rw [byteB_no hp] at hb; cases hb
      obtain ⟨p1, p2, p3, p4⟩ := plcB_spec hp
      obtain ⟨l, rfl⟩ := Int.eq_ofNat_of_zero_le p1
      obtain ⟨c, rfl⟩ := Int.eq_ofNat_of_zero_le p3
      exact ⟨l, c, rfl, rfl, by omega⟩
    have HON : Hid ((byteB L l c && decide ((1 : Int) ≤ 1)) = true) := Lib.hid (by rw [hb]; rfl)
    have HSN := Lib.hid (fun (w0 : World) (h0 : LinesAt w0 a L) => rsent_any a cap L w0 h0 htot)
    have hRin := (sentP_in (L := L)).1
    have hRl := (sentP_in (L := L)).2
    have hRs := sentP_sorted L
    have HREF := Lib.hid (fun (h : Nat) (hh : (hereS l c (sentP L)).length = h) => sObj_ref (around := ar) hb hh)
    obtain ⟨S, hS⟩ : ∃ S, sentP L = S := ⟨_, rfl⟩
    rw [hS] at HSN hRin hRl hRs HREF
    obtain ⟨e, he⟩ : ∃ e, L.length - 1 = e := ⟨_, rfl⟩
    obtain ⟨b, off, s, hab, hbb, hcell, hs, HS⟩ := line_facts' hL (i := e) (by omega)
    subst hab
    have HE : Hid (endP L = (e, s.size)) := Lib.hid (by rw [endP, he, HS.out])
    have e1 : (L.length : Int) - 1 = (e : Int) := by omega
    have e2 : (e : Int) < (L.length : Int) := by omega
    have e3 : (0 : Int) ≤ (e : Int) := by omega
    have HIN := Lib.hid hRin
    have HSO := Lib.hid hRs
    clear hb hS hRin hRs
    go_enter Try.func86, Try.ntmps86
    go_wp2_with (go_at_call 100; refine (on_at _ _ L _ _ _ _ (by (repeat (first | assumption | refine LinesAt.ovr ?_ _ | refine LinesAt.alloc ?_ _ | refine LinesAt.drewN ?_ _ | refine LinesAt.drew ?_))) HON).mono ?_; rintro e w1 ⟨rfl, hbl⟩; obtain ⟨x, rfl⟩ := ovr_of_below hbl; clear hbl)
    go_at_call 71
    refine (HSN.out _ (by (repeat (first | assumption | refine LinesAt.ovr ?_ _ | refine LinesAt.alloc ?_ _ | refine LinesAt.drewN ?_ _ | refine LinesAt.drew ?_)))).mono ?_
    rintro e' w1 ⟨v, rfl, hrow, hbl⟩
    obtain ⟨sl, lcap, rfl, hps⟩ := pairs_of_owns hrow
    obtain ⟨x1, rfl⟩ := ovr_of_below hbl
    clear hbl hrow
    go_wp2_with fail
    refine name_world ?_
    intro W1 hW1
    have hL1 : LinesAt W1 (some ⟨b, off, none⟩) L := by rw [hW1]; (repeat (first | assumption | refine LinesAt.ovr ?_ _ | refine LinesAt.alloc ?_ _ | refine LinesAt.drewN ?_ _ | refine LinesAt.drew ?_))
    have qs : PairsAt W1 sl S := by rw [hW1]; exact hps
    have cp0 : W1.cell? ⟨w.heap.size, 0, none⟩ = some (.int .i64 l) := by rw [hW1]; simp [go_sem]
    have cp1 : W1.cell? ⟨w.heap.size, 1, none⟩ = some (.int .i64 c) := by rw [hW1]; simp [go_sem]
    have cr0 : W1.cell? ⟨w.heap.size + 1, 0, none⟩ = some (.int .i64 0) := by rw [hW1]; simp [go_sem]
    have cr1 : W1.cell? ⟨w.heap.size + 1, 1, none⟩ = some (.int .i64 0) := by rw [hW1]; simp [go_sem]
    have cr2 : W1.cell? ⟨w.heap.size + 1, 2, none⟩ = some (.int .i64 0) := by rw [hW1]; simp [go_sem]
    have cr3 : W1.cell? ⟨w.heap.size + 1, 3, none⟩ = some (.int .i64 0) := by rw [hW1]; simp [go_sem]
    have cr4 : W1.cell? ⟨w.heap.size + 1, 4, none⟩ = some (.int .i64 0) := by rw [hW1]; simp [go_sem]
    have cf0 : W1.frozen? ⟨w.heap.size + 1, 0, none⟩ = false := by rw [hW1]; simp [go_sem]
    have cf1 : W1.frozen? ⟨w.heap.size + 1, 1, none⟩ = false := by rw [hW1]; simp [go_sem]
    have cf2 : W1.frozen? ⟨w.heap.size + 1, 2, none⟩ = false := by rw [hW1]; simp [go_sem]
    have cf3 : W1.frozen? ⟨w.heap.size + 1, 3, none⟩ = false := by rw [hW1]; simp [go_sem]
    have cf4 : W1.frozen? ⟨w.heap.size + 1, 4, none⟩ = false := by rw [hW1]; simp [go_sem]
    have hbel : Below w.heap.size w W1 := by rw [hW1]; (repeat (first | with_reducible exact Below.refl _ _ | (with_reducible refine Below.setCell ?_ ?_ _; rotate_left; · (first | exact Nat.le_refl _ | assumption | omega | (simp; done) | (simp; omega))) | (with_reducible refine Below.alloc ?_ ?_ _; rotate_left; · (first | exact Nat.le_refl _ | assumption | omega | (simp; done) | (simp; omega))) | with_reducible refine below_ovr_of ?_ | with_reducible refine drew_below ?_ _ | with_reducible refine Below.drew ?_ | with_reducible assumption))
    have hcell1 : W1.cell? ⟨b, off + e, none⟩ = some (.string s) := (hbel.cell (p := ⟨b, off + e, none⟩) hbb).trans hcell
    have lR : w.heap.size + 1 < W1.heap.size := by rw [hW1]; simp <;> omega
    have lP : w.heap.size < W1.heap.size := by omega
    have lB : b < W1.heap.size := by omega
    clear hW1 hps hcell
    go_loopw [9, 10] (fun kv i wr => ∃ (q h : Nat), q ≤ S.length ∧ i = .int .i64 (q : Int) ∧ kv = .int .i64 ((h : Int) - 1) ∧ h ≤ q ∧ Hid ((hereS l c (S.take q)).length = h) ∧ ∃ x, wr = ovr W1 x) (fun _ i _ => S.length - (intOf i).toNat)
    case atStart => exact ⟨0, 0, Nat.zero_le _, by go_num, by go_num, Nat.le_refl _, Lib.hid (by rw [List.take_zero]; rfl), { W1 with heap := #[] }, by simp [ovr]⟩
    case round =>
      obtain ⟨q, h, hq, rfl, rfl, hhq, HH, z, rfl⟩ := hrel
      by_cases hlt : q < S.length
      · have hqI : (q : Int) < (S.length : Int) := by omega
        have hq0 : (0 : Int) ≤ (q : Int) := by omega
        obtain ⟨g, rfl, hg, c0, c1⟩ := qs q hlt
        obtain ⟨⟨fx, fy⟩, hxy⟩ : ∃ p, S.getD q (0, 0) = p := ⟨_, rfl⟩
        have hst := here_step (l := l) (c := c) HSO.out hlt hxy
        rw [hxy] at c0 c1
        simp only at c0 c1
        obtain ⟨r, hr⟩ : ∃ r, lessB (l : Int) (c : Int) (fx : Int) (fy : Int) = r := ⟨_, rfl⟩
        rw [hr, HH.out] at hst
        have HQ2 := Lib.hid hr
        clear hr hxy
        cases r with
        | true =>
          rw [if_pos rfl] at hst
          have HH2 := Lib.hid hst
          clear hst
          go_wp2
          (refine wp_region_ovr (by kernel_rfl) (by kernel_rfl) ?_; (repeat (go_big_quiet_step ((go_at_call 72; exact quiet_ovr (rless_at _ _ _ _ _ HQ2))))); refine wpQuiet_nil ?_; rintro _ ⟨zq, rfl⟩)
          go_wp2
          go_roundw
          case rel => exact ⟨q + 1, h, by omega, by go_num, by go_num, by omega, HH2, ovr_of_below (by (repeat (first | with_reducible exact Below.refl _ _ | (with_reducible refine Below.setCell ?_ ?_ _; rotate_left; · (first | exact Nat.le_refl _ | assumption | omega | (simp; done) | (simp; omega))) | (with_reducible refine Below.alloc ?_ ?_ _; rotate_left; · (first | exact Nat.le_refl _ | assumption | omega | (simp; done) | (simp; omega))) | with_reducible refine below_ovr_of ?_ | with_reducible refine drew_below ?_ _ | with_reducible refine Below.drew ?_ | with_reducible assumption)))⟩
          case measure => simp [intOf]; omega
        | false =>
          rw [if_neg (by decide)] at hst
          have HH2 := Lib.hid hst
          clear hst
          go_wp2
          (refine wp_region_ovr (by kernel_rfl) (by kernel_rfl) ?_; (repeat (go_big_quiet_step ((go_at_call 72; exact quiet_ovr (rless_at _ _ _ _ _ HQ2))))); refine wpQuiet_nil ?_; rintro _ ⟨zq, rfl⟩)
          go_wp2
          go_roundw
          case rel => exact ⟨q + 1, q + 1, by omega, by go_num, by simp, by omega, HH2, ovr_of_below (by (repeat (first | with_reducible exact Below.refl _ _ | (with_reducible refine Below.setCell ?_ ?_ _; rotate_left; · (first | exact Nat.le_refl _ | assumption | omega | (simp; done) | (simp; omega))) | (with_reducible refine Below.alloc ?_ ?_ _; rotate_left; · (first | exact Nat.le_refl _ | assumption | omega | (simp; done) | (simp; omega))) | with_reducible refine below_ovr_of ?_ | with_reducible refine drew_below ?_ _ | with_reducible refine Below.drew ?_ | with_reducible assumption)))⟩
          case measure => simp [intOf]; omega
      · have hqI : ¬ (q : Int) < (S.length : Int) := by omega
        have hR := HREF.out h (by rw [← HH.out, List.take_of_length_le (by omega)])
        have HO : Hid (hereS l c S = S.take h) := Lib.hid (by have := (here_split (l := l) (c := c) HSO.out).1; rw [← HH.out, List.take_of_length_le (show S.length ≤ q by omega)]; exact this)
        have hhS : h ≤ S.length := by omega
        clear hq hhq HH HREF
        rcases Nat.eq_zero_or_pos h with rfl | hpos
        · have HY : Hid (sObjP L l c ar = noR) := Lib.hid (by rw [hR, if_pos rfl])
          clear hR
          go_wp2
          refine bodyPost_ret (v := rngV noR) (by simp [results, Try.results86, go_sem, noR, lR, cr0, cr1, cr2, cr3, cr4]) rfl ⟨by rw [HY.out], by (repeat (first | with_reducible exact Below.refl _ _ | (with_reducible refine Below.setCell ?_ ?_ _; rotate_left; · (first | exact Nat.le_refl _ | assumption | omega | (simp; done) | (simp; omega))) | (with_reducible refine Below.alloc ?_ ?_ _; rotate_left; · (first | exact Nat.le_refl _ | assumption | omega | (simp; done) | (simp; omega))) | with_reducible refine below_ovr_of ?_ | with_reducible refine drew_below ?_ _ | with_reducible refine Below.drew ?_ | with_reducible assumption))⟩
        · obtain ⟨h1, rfl⟩ : ∃ h1, h = h1 + 1 := ⟨h - 1, by omega⟩
          rw [if_neg (by omega), show h1 + 1 - 1 = h1 by omega] at hR
          have hh1 : ((h1 + 1 : Nat) : Int) - 1 = (h1 : Int) := by omega
          have hh1I : (h1 : Int) < (S.length : Int) := by omega
          have hh10 : (0 : Int) ≤ (h1 : Int) := by omega
          have hso : someB (S.take (h1 + 1)) = true := by
            have e : S.take (h1 + 1) = S.take h1 ++ [S.getD h1 (0, 0)] := take_snoc_getD S (0, 0) h1 (by omega)
            rw [e]; exact someB_snoc _ _
          obtain ⟨g, rfl, hg, a0, a1⟩ := qs h1 (by omega)
          obtain ⟨⟨fl, fc⟩, hf⟩ : ∃ p, S.getD h1 (0, 0) = p := ⟨_, rfl⟩
          have hfin := HIN.out (fl, fc) (by rw [← hf]; exact getD_mem S (0, 0) h1 (by omega))
          simp only at hfin
          have hfl := hfin.1
          rw [hf] at a0 a1 hR
          simp only at a0 a1
          by_cases hlt2 : h1 + 1 < S.length
          · have hltI : (h1 : Int) + 1 < (S.length : Int) := by omega
            have hlt0 : (0 : Int) ≤ (h1 : Int) + 1 := by omega
            have hltn : ((h1 : Int) + 1).toNat = h1 + 1 := by omega
            obtain ⟨g', e', _, b0, b1⟩ := qs (h1 + 1) hlt2
            cases e'
            obtain ⟨⟨tl, tc⟩, ht⟩ : ∃ p, S.getD (h1 + 1) (0, 0) = p := ⟨_, rfl⟩
            have htin := HIN.out (tl, tc) (by rw [← ht]; exact getD_mem S (0, 0) (h1 + 1) hlt2)
            simp only at htin
            have htl := htin.1
            have hft1 : fl ≤ tl := by
              have := (sorted_at HSO.out hlt2).1 (fl, fc) (by rw [← hf]; exact getD_mem_take S h1 (by omega))
              rw [ht] at this
              simp only [ltN] at this
              omega
            rw [ht] at b0 b1 hR
            rw [if_pos hlt2] at hR
            simp only at b0 b1
            clear ht hf
            have n1 : ¬ w.heap.size + 1 = W1.heap.size + z.heap.size + 1 := by omega
            have n2 : ¬ w.heap.size = W1.heap.size + z.heap.size := by omega
            have HP0 := Lib.hid hR
            have HSB := Lib.hid hso
            clear hR hso
            cases ar with
            | true =>
              have HR : Hid (sObjP L l c true = sentR L (S.take (h1 + 1)) (fl, fc) (tl, tc)) := Lib.hid (by rw [HP0.out, if_pos rfl])
              clear HP0
              go_upto_region 28 with (fail)
              obtain ⟨Ab, hAb⟩ : ∃ Ab, W1.heap.size + z.heap.size = Ab := ⟨_, rfl⟩
              rw [hAb]
              refine name_world ?_
              intro W4 hW4
              have cA0 : W4.cell? ⟨Ab, 0, none⟩ = some (.int .i64 fl) := by rw [hW4, ← hAb]; simp [go_sem]
              have cA1 : W4.cell? ⟨Ab, 1, none⟩ = some (.int .i64 fc) := by rw [hW4, ← hAb]; simp [go_sem]
              have cB0 : W4.cell? ⟨Ab + 1, 0, none⟩ = some (.int .i64 tl) := by rw [hW4, ← hAb]; simp [go_sem]
              have cB1 : W4.cell? ⟨Ab + 1, 1, none⟩ = some (.int .i64 tc) := by rw [hW4, ← hAb]; simp [go_sem]
              have hb14 : Below W1.heap.size W1 W4 := by rw [hW4]; (repeat (first | with_reducible exact Below.refl _ _ | (with_reducible refine Below.setCell ?_ ?_ _; rotate_left; · (first | exact Nat.le_refl _ | assumption | omega | (simp; done) | (simp; omega))) | (with_reducible refine Below.alloc ?_ ?_ _; rotate_left; · (first | exact Nat.le_refl _ | assumption | omega | (simp; done) | (simp; omega))) | with_reducible refine below_ovr_of ?_ | with_reducible refine drew_below ?_ _ | with_reducible refine Below.drew ?_ | with_reducible assumption))
              have dr0 := cell_keep_b hb14 cr0
              have dr1 := cell_keep_b hb14 cr1
              have dr2 := cell_keep_b hb14 cr2
              have dr3 := cell_keep_b hb14 cr3
              have dr4 := cell_keep_b hb14 cr4
              have df0 : W4.frozen? ⟨w.heap.size + 1, 0, none⟩ = false := (hb14.frozen (p := ⟨w.heap.size + 1, 0, none⟩) lR).trans cf0
              have df1 : W4.frozen? ⟨w.heap.size + 1, 1, none⟩ = false := (hb14.frozen (p := ⟨w.heap.size + 1, 1, none⟩) lR).trans cf1
              have df2 : W4.frozen? ⟨w.heap.size + 1, 2, none⟩ = false := (hb14.frozen (p := ⟨w.heap.size + 1, 2, none⟩) lR).trans cf2
              have df3 : W4.frozen? ⟨w.heap.size + 1, 3, none⟩ = false := (hb14.frozen (p := ⟨w.heap.size + 1, 3, none⟩) lR).trans cf3
              have df4 : W4.frozen? ⟨w.heap.size + 1, 4, none⟩ = false := (hb14.frozen (p := ⟨w.heap.size + 1, 4, none⟩) lR).trans cf4
              have hb4 : Below w.heap.size w W4 := by rw [hW4]; (repeat (first | with_reducible exact Below.refl _ _ | (with_reducible refine Below.setCell ?_ ?_ _; rotate_left; · (first | exact Nat.le_refl _ | assumption | omega | (simp; done) | (simp; omega))) | (with_reducible refine Below.alloc ?_ ?_ _; rotate_left; · (first | exact Nat.le_refl _ | assumption | omega | (simp; done) | (simp; omega))) | with_reducible refine below_ovr_of ?_ | with_reducible refine drew_below ?_ _ | with_reducible refine Below.drew ?_ | with_reducible assumption))
              have lR4 : w.heap.size + 1 < W4.heap.size := by have := hb14.size; omega
              have lA4 : Ab < W4.heap.size := World.block_lt_of_cell? _ _ cA0
              have lB4 : Ab + 1 < W4.heap.size := World.block_lt_of_cell? _ _ cB0
              have hwA : w.heap.size + 1 < Ab := by omega
              have n3 : ¬ w.heap.size = Ab := by omega
              have n5 : ¬ w.heap.size + 1 = Ab := by omega
              have n6 : ¬ Ab = w.heap.size + 1 := by omega
              clear hW4 hAb n1 n2 cp0 cp1 cf0 cf1 cf2 cf3 cf4
              by_cases hft : fl = tl ∧ fc = tc
              · obtain ⟨rfl, rfl⟩ := hft
                have HY := Lib.hid (HR.out.trans (sentR_same L _ (fl, fc)))
                go_wp2
                refine bodyPost_ret (v := rngV noR) (by simp [results, Try.results86, go_sem, noR, dr0, dr1, dr2, dr3, dr4]) rfl ⟨by rw [HY.out], by (repeat (first | with_reducible exact Below.refl _ _ | (with_reducible refine Below.setCell ?_ ?_ _; rotate_left; · (first | exact Nat.le_refl _ | assumption | omega | (simp; done) | (simp; omega))) | (with_reducible refine Below.alloc ?_ ?_ _; rotate_left; · (first | exact Nat.le_refl _ | assumption | omega | (simp; done) | (simp; omega))) | with_reducible refine below_ovr_of ?_ | with_reducible refine drew_below ?_ _ | with_reducible refine Below.drew ?_ | with_reducible assumption))⟩
              · have HY := Lib.hid (HR.out.trans (sentR_yes HSB.out hft))
                by_cases hf1 : fl = tl
                · have hf2 : ¬ fc = tc := fun h => hft ⟨hf1, h⟩
                  have hf3 : ((fc : Int) == (tc : Int)) = false := beq_eq_false_iff_ne.2 (by omega)
                  subst hf1
                  clear hft
                  go_wp2_with (go_at_call 116; refine (char_any _ _ _ _ _).mono ?_; rintro e9 w9 ⟨rfl, hbl⟩; obtain ⟨x9, rfl⟩ := ovr_of_below hbl; clear hbl)
                  refine bodyPost_ret (v := rngV ((0, (fl : Int), (fc : Int), (fl : Int), (tc : Int)), true)) (by simp [results, Try.results86, go_sem, lR4, dr0, dr1, dr2, dr3, dr4]) rfl ⟨by rw [HY.out], by (repeat (first | with_reducible exact Below.refl _ _ | (with_reducible refine Below.setCell ?_ ?_ _; rotate_left; · (first | exact Nat.le_refl _ | assumption | omega | (simp; done) | (simp; omega))) | (with_reducible refine Below.alloc ?_ ?_ _; rotate_left; · (first | exact Nat.le_refl _ | assumption | omega | (simp; done) | (simp; omega))) | with_reducible refine below_ovr_of ?_ | with_reducible refine drew_below ?_ _ | with_reducible refine Below.drew ?_ | with_reducible assumption))⟩
                · have hf3 : ((fl : Int) == (tl : Int)) = false := beq_eq_false_iff_ne.2 (by omega)
                  clear hft
                  go_wp2_with (go_at_call 116; refine (char_any _ _ _ _ _).mono ?_; rintro e9 w9 ⟨rfl, hbl⟩; obtain ⟨x9, rfl⟩ := ovr_of_below hbl; clear hbl)
                  refine bodyPost_ret (v := rngV ((0, (fl : Int), (fc : Int), (tl : Int), (tc : Int)), true)) (by simp [results, Try.results86, go_sem, lR4, dr0, dr1, dr2, dr3, dr4]) rfl ⟨by rw [HY.out], by (repeat (first | with_reducible exact Below.refl _ _ | (with_reducible refine Below.setCell ?_ ?_ _; rotate_left; · (first | exact Nat.le_refl _ | assumption | omega | (simp; done) | (simp; omega))) | (with_reducible refine Below.alloc ?_ ?_ _; rotate_left; · (first | exact Nat.le_refl _ | assumption | omega | (simp; done) | (simp; omega))) | with_reducible refine below_ovr_of ?_ | with_reducible refine drew_below ?_ _ | with_reducible refine Below.drew ?_ | with_reducible assumption))⟩
            | false =>
              have HR0 : Hid (sObjP L l c false = sentR L (S.take (h1 + 1)) (fl, fc) (endE L (fl, fc) (tl, tc) (fl, fc) (cellR L tl fl))) := Lib.hid (by rw [HP0.out, if_neg (by decide), endC_eq hfl htl (by simp only; omega)])
              clear HP0
              obtain ⟨FE, hFE⟩ : ∃ p, endE L (fl, fc) (tl, tc) (fl, fc) (cellR L tl fl) = p := ⟨_, rfl⟩
              rw [hFE] at HR0
              have HFE := Lib.hid hFE
              clear hFE
              go_wp2_with fail
              obtain ⟨Ab, hAb⟩ : ∃ Ab, W1.heap.size + z.heap.size = Ab := ⟨_, rfl⟩
              rw [hAb]
              refine name_world ?_
              intro W4 hW4
              have cA0 : W4.cell? ⟨Ab, 0, none⟩ = some (.int .i64 fl) := by rw [hW4, ← hAb]; simp [go_sem]
              have cA1 : W4.cell? ⟨Ab, 1, none⟩ = some (.int .i64 fc) := by rw [hW4, ← hAb]; simp [go_sem]
              have cB0 : W4.cell? ⟨Ab + 1, 0, none⟩ = some (.int .i64 tl) := by rw [hW4, ← hAb]; simp [go_sem]
              have cB1 : W4.cell? ⟨Ab + 1, 1, none⟩ = some (.int .i64 tc) := by rw [hW4, ← hAb]; simp [go_sem]
              have fB0 : W4.frozen? ⟨Ab + 1, 0, none⟩ = false := by rw [hW4, ← hAb]; simp [go_sem]
              have fB1 : W4.frozen? ⟨Ab + 1, 1, none⟩ = false := by rw [hW4, ← hAb]; simp [go_sem]
              have bE : Box2 W4 (Ab + 1 + 1) 29 (.int .i64 (fl : Int)) (.int .i64 (fc : Int)) := by rw [hW4]; exact box2_new _ _ _ _ (by rw [← hAb]; simp)
              have hb14 : Below W1.heap.size W1 W4 := by rw [hW4]; (repeat (first | with_reducible exact Below.refl _ _ | (with_reducible refine Below.setCell ?_ ?_ _; rotate_left; · (first | exact Nat.le_refl _ | assumption | omega | (simp; done) | (simp; omega))) | (with_reducible refine Below.alloc ?_ ?_ _; rotate_left; · (first | exact Nat.le_refl _ | assumption | omega | (simp; done) | (simp; omega))) | with_reducible refine below_ovr_of ?_ | with_reducible refine drew_below ?_ _ | with_reducible refine Below.drew ?_ | with_reducible assumption))
              have dr0 := cell_keep_b hb14 cr0
              have dr1 := cell_keep_b hb14 cr1
              have dr2 := cell_keep_b hb14 cr2
              have dr3 := cell_keep_b hb14 cr3
              have dr4 := cell_keep_b hb14 cr4
              have df0 : W4.frozen? ⟨w.heap.size + 1, 0, none⟩ = false := (hb14.frozen (p := ⟨w.heap.size + 1, 0, none⟩) lR).trans cf0
              have df1 : W4.frozen? ⟨w.heap.size + 1, 1, none⟩ = false := (hb14.frozen (p := ⟨w.heap.size + 1, 1, none⟩) lR).trans cf1
              have df2 : W4.frozen? ⟨w.heap.size + 1, 2, none⟩ = false := (hb14.frozen (p := ⟨w.heap.size + 1, 2, none⟩) lR).trans cf2
              have df3 : W4.frozen? ⟨w.heap.size + 1, 3, none⟩ = false := (hb14.frozen (p := ⟨w.heap.size + 1, 3, none⟩) lR).trans cf3
              have df4 : W4.frozen? ⟨w.heap.size + 1, 4, none⟩ = false := (hb14.frozen (p := ⟨w.heap.size + 1, 4, none⟩) lR).trans cf4
              have hb4 : Below w.heap.size w W4 := by rw [hW4]; (repeat (first | with_reducible exact Below.refl _ _ | (with_reducible refine Below.setCell ?_ ?_ _; rotate_left; · (first | exact Nat.le_refl _ | assumption | omega | (simp; done) | (simp; omega))) | (with_reducible refine Below.alloc ?_ ?_ _; rotate_left; · (first | exact Nat.le_refl _ | assumption | omega | (simp; done) | (simp; omega))) | with_reducible refine below_ovr_of ?_ | with_reducible refine drew_below ?_ _ | with_reducible refine Below.drew ?_ | with_reducible assumption))
              have hs4 : Ab + 1 + 1 < W4.heap.size := bE.lt
              have hwA : w.heap.size + 1 < Ab := by omega
              have hL4 := hL.below hb4 (Nat.le_refl _)
              have hbA : b < Ab := by omega
              clear hW4 hAb n1 n2 cp0 cp1  cf0 cf1 cf2 cf3 cf4
              go_loopw [14] (fun yv wr => ∃ (k : Nat) (e : Nat × Nat), k ≤ tl + 1 ∧ yv = .int .i64 (k : Int) ∧ Hid (endE L (fl, fc) (tl, tc) e (cellR L tl k) = FE) ∧ Box2 wr (Ab + 1 + 1) 29 (.int .i64 (e.1 : Int)) (.int .i64 (e.2 : Int)) ∧ But W4.heap.size [Ab + 1 + 1] W4 wr) (fun yv _ => tl + 1 - (intOf yv).toNat)
              case atStart => exact ⟨fl, (fl, fc), by omega, by go_num, HFE, bE, But.refl _ _ _⟩
              case round =>
                obtain ⟨k, e0, hk, rfl, HK, hE, hBu⟩ := hrel
                have hXs := hBu.size
                have tB0 : wr.cell? ⟨Ab + 1, 0, none⟩ = some (.int .i64 tl) := (hBu.cell (by omega) (by simp)).trans cB0
                have tB1 : wr.cell? ⟨Ab + 1, 1, none⟩ = some (.int .i64 tc) := (hBu.cell (by omega) (by simp)).trans cB1
                have tA0 : wr.cell? ⟨Ab, 0, none⟩ = some (.int .i64 fl) := (hBu.cell (by omega) (by simp; omega)).trans cA0
                have tA1 : wr.cell? ⟨Ab, 1, none⟩ = some (.int .i64 fc) := (hBu.cell (by omega) (by simp; omega)).trans cA1
                by_cases hkt : k ≤ tl
                · have hktI : (k : Int) ≤ (tl : Int) := by omega
                  have hk0 : (0 : Int) ≤ (k : Int) := by omega
                  have hkL : k < L.length := by omega
                  have hkI : (k : Int) < (L.length : Int) := by omega
                  obtain ⟨b', off', sk, eab, hbk, hcellk, hsk, HSK⟩ := line_facts' hL4 hkL
                  cases eab
                  have HK0 : Hid (endE L (fl, fc) (tl, tc) e0 (rowC sk k 0 ++ cellR L tl (k + 1)) = FE) := Lib.hid (by rw [← HK.out, cellR_on hkt HSK.out])
                  clear HK
                  have lB2 : Ab + 1 < wr.heap.size := by omega
                  go_wp2
                  clear tB0 tB1 tA0 tA1 lB2
                  go_loopw [15] (fun xv wr => ∃ (j : Nat) (e : Nat × Nat), j ≤ sk.size ∧ xv = .int .i64 (j : Int) ∧ Hid (endE L (fl, fc) (tl, tc) e (rowC sk k j ++ cellR L tl (k + 1)) = FE) ∧ Box2 wr (Ab + 1 + 1) 29 (.int .i64 (e.1 : Int)) (.int .i64 (e.2 : Int)) ∧ But W4.heap.size [Ab + 1 + 1] W4 wr) (fun xv _ => sk.size - (intOf xv).toNat)
                  case atStart => exact ⟨0, e0, Nat.zero_le _, by go_num, HK0, hE, hBu⟩
                  case round =>
                    clear hE hBu hXs
                    obtain ⟨j, e0, hj, rfl, HJ, hE, hBu⟩ := hrel
                    have hXs := hBu.size
                    have tB0 : wr.cell? ⟨Ab + 1, 0, none⟩ = some (.int .i64 tl) := (hBu.cell (by omega) (by simp)).trans cB0
                    have tB1 : wr.cell? ⟨Ab + 1, 1, none⟩ = some (.int .i64 tc) := (hBu.cell (by omega) (by simp)).trans cB1
                    have tA0 : wr.cell? ⟨Ab, 0, none⟩ = some (.int .i64 fl) := (hBu.cell (by omega) (by simp; omega)).trans cA0
                    have tA1 : wr.cell? ⟨Ab, 1, none⟩ = some (.int .i64 fc) := (hBu.cell (by omega) (by simp; omega)).trans cA1
                    have tS : wr.cell? ⟨b, off + k, none⟩ = some (.string sk) := (hBu.cell (by omega) (by simp; omega)).trans hcellk
                    have lA : Ab < wr.heap.size := by omega
                    have lB2 : Ab + 1 < wr.heap.size := by omega
                    have lE : Ab + 1 + 1 < wr.heap.size := hE.lt
                    have lb : b < wr.heap.size := by omega
                    by_cases hjl : j < sk.size
                    · have hjI : (j : Int) < (sk.size : Int) := by omega
                      have hj0 : (0 : Int) ≤ (j : Int) := by omega
                      have hE0 := hE.c0
                      have hE1 := hE.c1
                      have hEf0 := hE.f0
                      have hEf1 := hE.f1
                      have hby := byt_at' sk j hjl
                      obtain ⟨cv, hcv⟩ : ∃ cv, ofC (sk[j].toNat : Int) true = cv := ⟨_, rfl⟩
                      have hbyA : ofC (bytA L (k, j)) true = cv := by rw [bytA, HSK.out, hby]; exact hcv
                      obtain ⟨q1, hq1⟩ : ∃ q, lessB (k : Int) (j : Int) (fl : Int) (fc : Int) = q := ⟨_, rfl⟩
                      obtain ⟨q2, hq2⟩ : ∃ q, lessB (k : Int) (j : Int) (tl : Int) (tc : Int) = q := ⟨_, rfl⟩
                      have HIB : Hid (inB L (fl, fc) (tl, tc) (k, j) = (!(cv == 0) && (!q1 && q2))) := Lib.hid (by rw [inB, hbyA, hq1, hq2])
                      have HST : Hid (endE L (fl, fc) (tl, tc) (if inB L (fl, fc) (tl, tc) (k, j) = true then (k, j + 1) else e0) (rowC sk k (j + 1) ++ cellR L tl (k + 1)) = FE) := Lib.hid (by rw [← HJ.out, rowC_on hjl, List.cons_append, endE_cons])
                      have HCV := Lib.hid hcv
                      have HQ1 := Lib.hid hq1
                      have HQ2 := Lib.hid hq2
                      clear hcv hbyA hq1 hq2 hby HJ
                      cases q1 with
                      | true =>
                        have HJ2 : Hid (endE L (fl, fc) (tl, tc) e0 (rowC sk k (j + 1) ++ cellR L tl (k + 1)) = FE) := Lib.hid (by rw [← HST.out, HIB.out, Bool.not_true, Bool.false_and, Bool.and_false, if_neg (by decide)])
                        go_wp2_with (first | (go_at_call 72; refine (rless_at _ _ _ _ _ HQ1).mono ?_; rintro e9 w9 ⟨rfl, hbl⟩; obtain ⟨y1, rfl⟩ := ovr_of_below hbl; clear hbl))
                        go_roundw
                        case rel => exact ⟨j + 1, e0, by omega, by go_num, HJ2, (hE.alloc _).ovr _, hBu.trans (But.of_below (by exact below_ovr2 (((Below.refl _ wr).alloc hXs _)) (by simp; omega)))⟩
                        case measure => simp [intOf]; omega
                      | false =>
                        cases q2 with
                        | false =>
                          have HJ2 : Hid (endE L (fl, fc) (tl, tc) e0 (rowC sk k (j + 1) ++ cellR L tl (k + 1)) = FE) := Lib.hid (by rw [← HST.out, HIB.out, Bool.and_false, Bool.and_false, if_neg (by decide)])
                          go_wp2_with (first | (go_at_call 72; refine (rless_at _ _ _ _ _ HQ1).mono ?_; rintro e9 w9 ⟨rfl, hbl⟩; obtain ⟨y1, rfl⟩ := ovr_of_below hbl; clear hbl; clear HQ1) | (go_at_call 72; refine (rless_at _ _ _ _ _ HQ2).mono ?_; rintro e9 w9 ⟨rfl, hbl⟩; obtain ⟨y2, rfl⟩ := ovr_of_below hbl; clear hbl))
                          go_roundw
                          case rel => exact ⟨j + 1, e0, by omega, by go_num, HJ2, ((hE.alloc _).ovr _).ovr _, hBu.trans (But.of_below (by exact below_ovr2 (below_ovr2 ((Below.refl _ wr).alloc hXs _) (by simp; omega)) (by simp; omega)))⟩
                          case measure => simp [intOf]; omega
                        | true =>
                          by_cases hc0 : cv = 0
                          · subst hc0
                            have HJ2 : Hid (endE L (fl, fc) (tl, tc) e0 (rowC sk k (j + 1) ++ cellR L tl (k + 1)) = FE) := Lib.hid (by rw [← HST.out, HIB.out]; rfl)
                            go_wp2_with (first | (go_at_call 72; refine (rless_at _ _ _ _ _ HQ1).mono ?_; rintro e9 w9 ⟨rfl, hbl⟩; obtain ⟨y1, rfl⟩ := ovr_of_below hbl; clear hbl; clear HQ1) | (go_at_call 72; refine (rless_at _ _ _ _ _ HQ2).mono ?_; rintro e9 w9 ⟨rfl, hbl⟩; obtain ⟨y2, rfl⟩ := ovr_of_below hbl; clear hbl) | (go_at_call 101; refine (rof_any _ _ _).mono ?_; rw [HCV.out]; rintro e9 w9 ⟨rfl, rfl⟩))
                            go_roundw
                            case rel => exact ⟨j + 1, e0, by omega, by go_num, HJ2, ((hE.alloc _).ovr _).ovr _, hBu.trans (But.of_below (by exact below_ovr2 (below_ovr2 ((Below.refl _ wr).alloc hXs _) (by simp; omega)) (by simp; omega)))⟩
                            case measure => simp [intOf]; omega
                          · have hcb : (cv == 0) = false := beq_eq_false_iff_ne.2 hc0
                            have HJ2 : Hid (endE L (fl, fc) (tl, tc) (k, j + 1) (rowC sk k (j + 1) ++ cellR L tl (k + 1)) = FE) := Lib.hid (by rw [← HST.out, HIB.out, hcb]; rfl)
                            go_wp2_with (first | (go_at_call 72; refine (rless_at _ _ _ _ _ HQ1).mono ?_; rintro e9 w9 ⟨rfl, hbl⟩; obtain ⟨y1, rfl⟩ := ovr_of_below hbl; clear hbl; clear HQ1) | (go_at_call 72; refine (rless_at _ _ _ _ _ HQ2).mono ?_; rintro e9 w9 ⟨rfl, hbl⟩; obtain ⟨y2, rfl⟩ := ovr_of_below hbl; clear hbl) | (go_at_call 101; refine (rof_any _ _ _).mono ?_; rw [HCV.out]; rintro e9 w9 ⟨rfl, rfl⟩))
                            go_roundw
                            case rel => exact ⟨j + 1, (k, j + 1), by omega, by go_num, HJ2, (((hE.set (.int .i64 (k : Int)) (.int .i64 ((j : Int) + 1))).alloc _).ovr _).ovr _, hBu.trans (((((But.refl _ _ wr).setCell (.inl (by simp)) _ _).setCell (.inl (by simp)) _ _).alloc (by simp; omega) _).trans (But.of_below (below_ovr2 ((below_ovr _ _).mono (by simp; omega)) (by simp; omega))))⟩
                            case measure => simp [intOf]; omega
                    · have hjI : ¬ (j : Int) < (sk.size : Int) := by omega
                      have HJ2 : Hid (endE L (fl, fc) (tl, tc) e0 (cellR L tl (k + 1)) = FE) := Lib.hid (by rw [← HJ.out, rowC_end (by omega), List.nil_append])
                      go_wp2
                      go_roundw
                      case rel => exact ⟨k + 1, e0, by omega, by go_num, HJ2, hE, hBu⟩
                      case measure => simp [intOf]; omega
                · have hktI : ¬ (k : Int) ≤ (tl : Int) := by omega
                  have hFEe : e0 = FE := by rw [← HK.out, cellR_end hkt]; rfl
                  subst hFEe
                  obtain ⟨el, ec⟩ := e0
                  have HR : Hid (sObjP L l c false = sentR L (S.take (h1 + 1)) (fl, fc) (el, ec)) := HR0
                  have hE0 := hE.c0
                  have hE1 := hE.c1
                  have tf0 : wr.frozen? ⟨Ab + 1, 0, none⟩ = false := (hBu.frozen (by omega) (by simp)).trans fB0
                  have tf1 : wr.frozen? ⟨Ab + 1, 1, none⟩ = false := (hBu.frozen (by omega) (by simp)).trans fB1
                  have cr0 : wr.cell? ⟨w.heap.size + 1, 0, none⟩ = some (.int .i64 0) := (hBu.cell (by omega) (by simp; omega)).trans dr0
                  have cr1 : wr.cell? ⟨w.heap.size + 1, 1, none⟩ = some (.int .i64 0) := (hBu.cell (by omega) (by simp; omega)).trans dr1
                  have cr2 : wr.cell? ⟨w.heap.size + 1, 2, none⟩ = some (.int .i64 0) := (hBu.cell (by omega) (by simp; omega)).trans dr2
                  have cr3 : wr.cell? ⟨w.heap.size + 1, 3, none⟩ = some (.int .i64 0) := (hBu.cell (by omega) (by simp; omega)).trans dr3
                  have cr4 : wr.cell? ⟨w.heap.size + 1, 4, none⟩ = some (.int .i64 0) := (hBu.cell (by omega) (by simp; omega)).trans dr4
                  have cf0 : wr.frozen? ⟨w.heap.size + 1, 0, none⟩ = false := (hBu.frozen (by omega) (by simp; omega)).trans df0
                  have cf1 : wr.frozen? ⟨w.heap.size + 1, 1, none⟩ = false := (hBu.frozen (by omega) (by simp; omega)).trans df1
                  have cf2 : wr.frozen? ⟨w.heap.size + 1, 2, none⟩ = false := (hBu.frozen (by omega) (by simp; omega)).trans df2
                  have cf3 : wr.frozen? ⟨w.heap.size + 1, 3, none⟩ = false := (hBu.frozen (by omega) (by simp; omega)).trans df3
                  have cf4 : wr.frozen? ⟨w.heap.size + 1, 4, none⟩ = false := (hBu.frozen (by omega) (by simp; omega)).trans df4
                  have lRw : w.heap.size + 1 < wr.heap.size := by omega
                  have lA : Ab < wr.heap.size := by omega
                  have lB2 : Ab + 1 < wr.heap.size := by omega
                  have n3 : ¬ w.heap.size = Ab := by omega
                  have n5 : ¬ w.heap.size + 1 = Ab := by omega
                  have n6 : ¬ Ab = w.heap.size + 1 := by omega
                  have n4 : ¬ w.heap.size + 1 = Ab + 1 := by omega
                  have hbwr : Below w.heap.size w wr := hBu.below hb4 (by omega) (by intro k hk; simp at hk; omega)
                  simp only at hE0 hE1
                  clear HK HR0 hE
                  by_cases hft : fl = el ∧ fc = ec
                  · obtain ⟨rfl, rfl⟩ := hft
                    have HY := Lib.hid (HR.out.trans (sentR_same L _ (fl, fc)))
                    go_wp2
                    refine bodyPost_ret (v := rngV noR) (by simp [results, Try.results86, go_sem, noR, cr0, cr1, cr2, cr3, cr4]) rfl ⟨by rw [HY.out], by (repeat (first | with_reducible exact Below.refl _ _ | (with_reducible refine Below.setCell ?_ ?_ _; rotate_left; · (first | exact Nat.le_refl _ | assumption | omega | (simp; done) | (simp; omega))) | (with_reducible refine Below.alloc ?_ ?_ _; rotate_left; · (first | exact Nat.le_refl _ | assumption | omega | (simp; done) | (simp; omega))) | with_reducible refine below_ovr_of ?_ | with_reducible refine drew_below ?_ _ | with_reducible refine Below.drew ?_ | with_reducible assumption))⟩
                  · have HY := Lib.hid (HR.out.trans (sentR_yes HSB.out hft))
                    by_cases hf1 : fl = el
                    · have hf2 : ¬ fc = ec := fun h => hft ⟨hf1, h⟩
                      have hf3 : ((fc : Int) == (ec : Int)) = false := beq_eq_false_iff_ne.2 (by omega)
                      subst hf1
                      clear hft
                      go_wp2_with (go_at_call 116; refine (char_any _ _ _ _ _).mono ?_; rintro e9 w9 ⟨rfl, hbl⟩; obtain ⟨x9, rfl⟩ := ovr_of_below hbl; clear hbl)
                      refine bodyPost_ret (v := rngV ((0, (fl : Int), (fc : Int), (fl : Int), (ec : Int)), true)) (by simp [results, Try.results86, go_sem, lRw, cr0, cr1, cr2, cr3, cr4]) rfl ⟨by rw [HY.out], by (repeat (first | with_reducible exact Below.refl _ _ | (with_reducible refine Below.setCell ?_ ?_ _; rotate_left; · (first | exact Nat.le_refl _ | assumption | omega | (simp; done) | (simp; omega))) | (with_reducible refine Below.alloc ?_ ?_ _; rotate_left; · (first | exact Nat.le_refl _ | assumption | omega | (simp; done) | (simp; omega))) | with_reducible refine below_ovr_of ?_ | with_reducible refine drew_below ?_ _ | with_reducible refine Below.drew ?_ | with_reducible assumption))⟩
                    · have hf3 : ((fl : Int) == (el : Int)) = false := beq_eq_false_iff_ne.2 (by omega)
                      clear hft
                      go_wp2_with (go_at_call 116; refine (char_any _ _ _ _ _).mono ?_; rintro e9 w9 ⟨rfl, hbl⟩; obtain ⟨x9, rfl⟩ := ovr_of_below hbl; clear hbl)
                      refine bodyPost_ret (v := rngV ((0, (fl : Int), (fc : Int), (el : Int), (ec : Int)), true)) (by simp [results, Try.results86, go_sem, lRw, cr0, cr1, cr2, cr3, cr4]) rfl ⟨by rw [HY.out], by (repeat (first | with_reducible exact Below.refl _ _ | (with_reducible refine Below.setCell ?_ ?_ _; rotate_left; · (first | exact Nat.le_refl _ | assumption | omega | (simp; done) | (simp; omega))) | (with_reducible refine Below.alloc ?_ ?_ _; rotate_left; · (first | exact Nat.le_refl _ | assumption | omega | (simp; done) | (simp; omega))) | with_reducible refine below_ovr_of ?_ | with_reducible refine drew_below ?_ _ | with_reducible refine Below.drew ?_ | with_reducible assumption))⟩
          · have hltI : ¬ (h1 : Int) + 1 < (S.length : Int) := by omega
            have hltN : ¬ h1 + 1 < S.length := hlt2
            rw [if_neg hlt2, HE.out] at hR
            obtain ⟨tl, htl0⟩ : ∃ tl, tl = e := ⟨_, rfl⟩
            obtain ⟨tc, htc0⟩ : ∃ tc, s.size = tc := ⟨_, rfl⟩
            have htl : tl < L.length := by omega
            have hft1 : fl ≤ tl := by omega
            rw [← htl0, htc0] at hR
            have esz : (s.size : Int) = (tc : Int) := by omega
            clear hf htc0
            subst htl0
            have n1 : ¬ w.heap.size + 1 = W1.heap.size + z.heap.size + 1 := by omega
            have n2 : ¬ w.heap.size = W1.heap.size + z.heap.size := by omega
            have HP0 := Lib.hid hR
            have HSB := Lib.hid hso
            clear hR hso
            cases ar with
            | true =>
              have HR : Hid (sObjP L l c true = sentR L (S.take (h1 + 1)) (fl, fc) (tl, tc)) := Lib.hid (by rw [HP0.out, if_pos rfl])
              clear HP0
              go_upto_region 28 with (fail)
              obtain ⟨Ab, hAb⟩ : ∃ Ab, W1.heap.size + z.heap.size = Ab := ⟨_, rfl⟩
              rw [hAb]
              refine name_world ?_
              intro W4 hW4
              have cA0 : W4.cell? ⟨Ab, 0, none⟩ = some (.int .i64 fl) := by rw [hW4, ← hAb]; simp [go_sem]
              have cA1 : W4.cell? ⟨Ab, 1, none⟩ = some (.int .i64 fc) := by rw [hW4, ← hAb]; simp [go_sem]
              have cB0 : W4.cell? ⟨Ab + 1, 0, none⟩ = some (.int .i64 tl) := by rw [hW4, ← hAb]; simp [go_sem]
              have cB1 : W4.cell? ⟨Ab + 1, 1, none⟩ = some (.int .i64 tc) := by rw [hW4, ← hAb]; simp [go_sem]
              have hb14 : Below W1.heap.size W1 W4 := by rw [hW4]; (repeat (first | with_reducible exact Below.refl _ _ | (with_reducible refine Below.setCell ?_ ?_ _; rotate_left; · (first | exact Nat.le_refl _ | assumption | omega | (simp; done) | (simp; omega))) | (with_reducible refine Below.alloc ?_ ?_ _; rotate_left; · (first | exact Nat.le_refl _ | assumption | omega | (simp; done) | (simp; omega))) | with_reducible refine below_ovr_of ?_ | with_reducible refine drew_below ?_ _ | with_reducible refine Below.drew ?_ | with_reducible assumption))
              have dr0 := cell_keep_b hb14 cr0
              have dr1 := cell_keep_b hb14 cr1
              have dr2 := cell_keep_b hb14 cr2
              have dr3 := cell_keep_b hb14 cr3
              have dr4 := cell_keep_b hb14 cr4
              have df0 : W4.frozen? ⟨w.heap.size + 1, 0, none⟩ = false := (hb14.frozen (p := ⟨w.heap.size + 1, 0, none⟩) lR).trans cf0
              have df1 : W4.frozen? ⟨w.heap.size + 1, 1, none⟩ = false := (hb14.frozen (p := ⟨w.heap.size + 1, 1, none⟩) lR).trans cf1
              have df2 : W4.frozen? ⟨w.heap.size + 1, 2, none⟩ = false := (hb14.frozen (p := ⟨w.heap.size + 1, 2, none⟩) lR).trans cf2
              have df3 : W4.frozen? ⟨w.heap.size + 1, 3, none⟩ = false := (hb14.frozen (p := ⟨w.heap.size + 1, 3, none⟩) lR).trans cf3
              have df4 : W4.frozen? ⟨w.heap.size + 1, 4, none⟩ = false := (hb14.frozen (p := ⟨w.heap.size + 1, 4, none⟩) lR).trans cf4
              have hb4 : Below w.heap.size w W4 := by rw [hW4]; (repeat (first | with_reducible exact Below.refl _ _ | (with_reducible refine Below.setCell ?_ ?_ _; rotate_left; · (first | exact Nat.le_refl _ | assumption | omega | (simp; done) | (simp; omega))) | (with_reducible refine Below.alloc ?_ ?_ _; rotate_left; · (first | exact Nat.le_refl _ | assumption | omega | (simp; done) | (simp; omega))) | with_reducible refine below_ovr_of ?_ | with_reducible refine drew_below ?_ _ | with_reducible refine Below.drew ?_ | with_reducible assumption))
              have lR4 : w.heap.size + 1 < W4.heap.size := by have := hb14.size; omega
              have lA4 : Ab < W4.heap.size := World.block_lt_of_cell? _ _ cA0
              have lB4 : Ab + 1 < W4.heap.size := World.block_lt_of_cell? _ _ cB0
              have hwA : w.heap.size + 1 < Ab := by omega
              have n3 : ¬ w.heap.size = Ab := by omega
              have n5 : ¬ w.heap.size + 1 = Ab := by omega
              have n6 : ¬ Ab = w.heap.size + 1 := by omega
              clear hW4 hAb n1 n2 cp0 cp1 cf0 cf1 cf2 cf3 cf4
              by_cases hft : fl = tl ∧ fc = tc
              · obtain ⟨rfl, rfl⟩ := hft
                have HY := Lib.hid (HR.out.trans (sentR_same L _ (fl, fc)))
                go_wp2
                refine bodyPost_ret (v := rngV noR) (by simp [results, Try.results86, go_sem, noR, dr0, dr1, dr2, dr3, dr4]) rfl ⟨by rw [HY.out], by (repeat (first | with_reducible exact Below.refl _ _ | (with_reducible refine Below.setCell ?_ ?_ _; rotate_left; · (first | exact Nat.le_refl _ | assumption | omega | (simp; done) | (simp; omega))) | (with_reducible refine Below.alloc ?_ ?_ _; rotate_left; · (first | exact Nat.le_refl _ | assumption | omega | (simp; done) | (simp; omega))) | with_reducible refine below_ovr_of ?_ | with_reducible refine drew_below ?_ _ | with_reducible refine Below.drew ?_ | with_reducible assumption))⟩
              · have HY := Lib.hid (HR.out.trans (sentR_yes HSB.out hft))
                by_cases hf1 : fl = tl
                · have hf2 : ¬ fc = tc := fun h => hft ⟨hf1, h⟩
                  have hf3 : ((fc : Int) == (tc : Int)) = false := beq_eq_false_iff_ne.2 (by omega)
                  subst hf1
                  clear hft
                  go_wp2_with (go_at_call 116; refine (char_any _ _ _ _ _).mono ?_; rintro e9 w9 ⟨rfl, hbl⟩; obtain ⟨x9, rfl⟩ := ovr_of_below hbl; clear hbl)
                  refine bodyPost_ret (v := rngV ((0, (fl : Int), (fc : Int), (fl : Int), (tc : Int)), true)) (by simp [results, Try.results86, go_sem, lR4, dr0, dr1, dr2, dr3, dr4]) rfl ⟨by rw [HY.out], by (repeat (first | with_reducible exact Below.refl _ _ | (with_reducible refine Below.setCell ?_ ?_ _; rotate_left; · (first | exact Nat.le_refl _ | assumption | omega | (simp; done) | (simp; omega))) | (with_reducible refine Below.alloc ?_ ?_ _; rotate_left; · (first | exact Nat.le_refl _ | assumption | omega | (simp; done) | (simp; omega))) | with_reducible refine below_ovr_of ?_ | with_reducible refine drew_below ?_ _ | with_reducible refine Below.drew ?_ | with_reducible assumption))⟩
                · have hf3 : ((fl : Int) == (tl : Int)) = false := beq_eq_false_iff_ne.2 (by omega)
                  clear hft
                  go_wp2_with (go_at_call 116; refine (char_any _ _ _ _ _).mono ?_; rintro e9 w9 ⟨rfl, hbl⟩; obtain ⟨x9, rfl⟩ := ovr_of_below hbl; clear hbl)
                  refine bodyPost_ret (v := rngV ((0, (fl : Int), (fc : Int), (tl : Int), (tc : Int)), true)) (by simp [results, Try.results86, go_sem, lR4, dr0, dr1, dr2, dr3, dr4]) rfl ⟨by rw [HY.out], by (repeat (first | with_reducible exact Below.refl _ _ | (with_reducible refine Below.setCell ?_ ?_ _; rotate_left; · (first | exact Nat.le_refl _ | assumption | omega | (simp; done) | (simp; omega))) | (with_reducible refine Below.alloc ?_ ?_ _; rotate_left; · (first | exact Nat.le_refl _ | assumption | omega | (simp; done) | (simp; omega))) | with_reducible refine below_ovr_of ?_ | with_reducible refine drew_below ?_ _ | with_reducible refine Below.drew ?_ | with_reducible assumption))⟩
            | false =>
              have HR0 : Hid (sObjP L l c false = sentR L (S.take (h1 + 1)) (fl, fc) (endE L (fl, fc) (tl, tc) (fl, fc) (cellR L tl fl))) := Lib.hid (by rw [HP0.out, if_neg (by decide), endC_eq hfl htl (by simp only; omega)])
              clear HP0
              obtain ⟨FE, hFE⟩ : ∃ p, endE L (fl, fc) (tl, tc) (fl, fc) (cellR L tl fl) = p := ⟨_, rfl⟩
              rw [hFE] at HR0
              have HFE := Lib.hid hFE
              clear hFE
              go_wp2_with fail
              obtain ⟨Ab, hAb⟩ : ∃ Ab, W1.heap.size + z.heap.size = Ab := ⟨_, rfl⟩
              rw [hAb]
              refine name_world ?_
              intro W4 hW4
              have cA0 : W4.cell? ⟨Ab, 0, none⟩ = some (.int .i64 fl) := by rw [hW4, ← hAb]; simp [go_sem]
              have cA1 : W4.cell? ⟨Ab, 1, none⟩ = some (.int .i64 fc) := by rw [hW4, ← hAb]; simp [go_sem]
              have cB0 : W4.cell? ⟨Ab + 1, 0, none⟩ = some (.int .i64 tl) := by rw [hW4, ← hAb]; simp [go_sem]
              have cB1 : W4.cell? ⟨Ab + 1, 1, none⟩ = some (.int .i64 tc) := by rw [hW4, ← hAb]; simp [go_sem]
              have fB0 : W4.frozen? ⟨Ab + 1, 0, none⟩ = false := by rw [hW4, ← hAb]; simp [go_sem]
              have fB1 : W4.frozen? ⟨Ab + 1, 1, none⟩ = false := by rw [hW4, ← hAb]; simp [go_sem]
              have bE : Box2 W4 (Ab + 1 + 1) 29 (.int .i64 (fl : Int)) (.int .i64 (fc : Int)) := by rw [hW4]; exact box2_new _ _ _ _ (by rw [← hAb]; simp)
              have hb14 : Below W1.heap.size W1 W4 := by rw [hW4]; (repeat (first | with_reducible exact Below.refl _ _ | (with_reducible refine Below.setCell ?_ ?_ _; rotate_left; · (first | exact Nat.le_refl _ | assumption | omega | (simp; done) | (simp; omega))) | (with_reducible refine Below.alloc ?_ ?_ _; rotate_left; · (first | exact Nat.le_refl _ | assumption | omega | (simp; done) | (simp; omega))) | with_reducible refine below_ovr_of ?_ | with_reducible refine drew_below ?_ _ | with_reducible refine Below.drew ?_ | with_reducible assumption))
              have dr0 := cell_keep_b hb14 cr0
              have dr1 := cell_keep_b hb14 cr1
              have dr2 := cell_keep_b hb14 cr2
              have dr3 := cell_keep_b hb14 cr3
              have dr4 := cell_keep_b hb14 cr4
              have df0 : W4.frozen? ⟨w.heap.size + 1, 0, none⟩ = false := (hb14.frozen (p := ⟨w.heap.size + 1, 0, none⟩) lR).trans cf0
              have df1 : W4.frozen? ⟨w.heap.size + 1, 1, none⟩ = false := (hb14.frozen (p := ⟨w.heap.size + 1, 1, none⟩) lR).trans cf1
              have df2 : W4.frozen? ⟨w.heap.size + 1, 2, none⟩ = false := (hb14.frozen (p := ⟨w.heap.size + 1, 2, none⟩) lR).trans cf2
              have df3 : W4.frozen? ⟨w.heap.size + 1, 3, none⟩ = false := (hb14.frozen (p := ⟨w.heap.size + 1, 3, none⟩) lR).trans cf3
              have df4 : W4.frozen? ⟨w.heap.size + 1, 4, none⟩ = false := (hb14.frozen (p := ⟨w.heap.size + 1, 4, none⟩) lR).trans cf4
              have hb4 : Below w.heap.size w W4 := by rw [hW4]; (repeat (first | with_reducible exact Below.refl _ _ | (with_reducible refine Below.setCell ?_ ?_ _; rotate_left; · (first | exact Nat.le_refl _ | assumption | omega | (simp; done) | (simp; omega))) | (with_reducible refine Below.alloc ?_ ?_ _; rotate_left; · (first | exact Nat.le_refl _ | assumption | omega | (simp; done) | (simp; omega))) | with_reducible refine below_ovr_of ?_ | with_reducible refine drew_below ?_ _ | with_reducible refine Below.drew ?_ | with_reducible assumption))
              have hs4 : Ab + 1 + 1 < W4.heap.size := bE.lt
              have hwA : w.heap.size + 1 < Ab := by omega
              have hL4 := hL.below hb4 (Nat.le_refl _)
              have hbA : b < Ab := by omega
              clear hW4 hAb n1 n2 cp0 cp1  cf0 cf1 cf2 cf3 cf4
              go_loopw [14] (fun yv wr => ∃ (k : Nat) (e : Nat × Nat), k ≤ tl + 1 ∧ yv = .int .i64 (k : Int) ∧ Hid (endE L (fl, fc) (tl, tc) e (cellR L tl k) = FE) ∧ Box2 wr (Ab + 1 + 1) 29 (.int .i64 (e.1 : Int)) (.int .i64 (e.2 : Int)) ∧ But W4.heap.size [Ab + 1 + 1] W4 wr) (fun yv _ => tl + 1 - (intOf yv).toNat)
              case atStart => exact ⟨fl, (fl, fc), by omega, by go_num, HFE, bE, But.refl _ _ _⟩
              case round =>
                obtain ⟨k, e0, hk, rfl, HK, hE, hBu⟩ := hrel
                have hXs := hBu.size
                have tB0 : wr.cell? ⟨Ab + 1, 0, none⟩ = some (.int .i64 tl) := (hBu.cell (by omega) (by simp)).trans cB0
                have tB1 : wr.cell? ⟨Ab + 1, 1, none⟩ = some (.int .i64 tc) := (hBu.cell (by omega) (by simp)).trans cB1
                have tA0 : wr.cell? ⟨Ab, 0, none⟩ = some (.int .i64 fl) := (hBu.cell (by omega) (by simp; omega)).trans cA0
                have tA1 : wr.cell? ⟨Ab, 1, none⟩ = some (.int .i64 fc) := (hBu.cell (by omega) (by simp; omega)).trans cA1
                by_cases hkt : k ≤ tl
                · have hktI : (k : Int) ≤ (tl : Int) := by omega
                  have hk0 : (0 : Int) ≤ (k : Int) := by omega
                  have hkL : k < L.length := by omega
                  have hkI : (k : Int) < (L.length : Int) := by omega
                  obtain ⟨b', off', sk, eab, hbk, hcellk, hsk, HSK⟩ := line_facts' hL4 hkL
                  cases eab
                  have HK0 : Hid (endE L (fl, fc) (tl, tc) e0 (rowC sk k 0 ++ cellR L tl (k + 1)) = FE) := Lib.hid (by rw [← HK.out, cellR_on hkt HSK.out])
                  clear HK
                  have lB2 : Ab + 1 < wr.heap.size := by omega
                  go_wp2
                  clear tB0 tB1 tA0 tA1 lB2
                  go_loopw [15] (fun xv wr => ∃ (j : Nat) (e : Nat × Nat), j ≤ sk.size ∧ xv = .int .i64 (j : Int) ∧ Hid (endE L (fl, fc) (tl, tc) e (rowC sk k j ++ cellR L tl (k + 1)) = FE) ∧ Box2 wr (Ab + 1 + 1) 29 (.int .i64 (e.1 : Int)) (.int .i64 (e.2 : Int)) ∧ But W4.heap.size [Ab + 1 + 1] W4 wr) (fun xv _ => sk.size - (intOf xv).toNat)
                  case atStart => exact ⟨0, e0, Nat.zero_le _, by go_num, HK0, hE, hBu⟩
                  case round =>
                    clear hE hBu hXs
                    obtain ⟨j, e0, hj, rfl, HJ, hE, hBu⟩ := hrel
                    have hXs := hBu.size
                    have tB0 : wr.cell? ⟨Ab + 1, 0, none⟩ = some (.int .i64 tl) := (hBu.cell (by omega) (by simp)).trans cB0
                    have tB1 : wr.cell? ⟨Ab + 1, 1, none⟩ = some (.int .i64 tc) := (hBu.cell (by omega) (by simp)).trans cB1
                    have tA0 : wr.cell? ⟨Ab, 0, none⟩ = some (.int .i64 fl) := (hBu.cell (by omega) (by simp; omega)).trans cA0
                    have tA1 : wr.cell? ⟨Ab, 1, none⟩ = some (.int .i64 fc) := (hBu.cell (by omega) (by simp; omega)).trans cA1
                    have tS : wr.cell? ⟨b, off + k, none⟩ = some (.string sk) := (hBu.cell (by omega) (by simp; omega)).trans hcellk
                    have lA : Ab < wr.heap.size := by omega
                    have lB2 : Ab + 1 < wr.heap.size := by omega
                    have lE : Ab + 1 + 1 < wr.heap.size := hE.lt
                    have lb : b < wr.heap.size := by omega
                    by_cases hjl : j < sk.size
                    · have hjI : (j : Int) < (sk.size : Int) := by omega
                      have hj0 : (0 : Int) ≤ (j : Int) := by omega
                      have hE0 := hE.c0
                      have hE1 := hE.c1
                      have hEf0 := hE.f0
                      have hEf1 := hE.f1
                      have hby := byt_at' sk j hjl
                      obtain ⟨cv, hcv⟩ : ∃ cv, ofC (sk[j].toNat : Int) true = cv := ⟨_, rfl⟩
                      have hbyA : ofC (bytA L (k, j)) true = cv := by rw [bytA, HSK.out, hby]; exact hcv
                      obtain ⟨q1, hq1⟩ : ∃ q, lessB (k : Int) (j : Int) (fl : Int) (fc : Int) = q := ⟨_, rfl⟩
                      obtain ⟨q2, hq2⟩ : ∃ q, lessB (k : Int) (j : Int) (tl : Int) (tc : Int) = q := ⟨_, rfl⟩
                      have HIB : Hid (inB L (fl, fc) (tl, tc) (k, j) = (!(cv == 0) && (!q1 && q2))) := Lib.hid (by rw [inB, hbyA, hq1, hq2])
                      have HST : Hid (endE L (fl, fc) (tl, tc) (if inB L (fl, fc) (tl, tc) (k, j) = true then (k, j + 1) else e0) (rowC sk k (j + 1) ++ cellR L tl (k + 1)) = FE) := Lib.hid (by rw [← HJ.out, rowC_on hjl, List.cons_append, endE_cons])
                      have HCV := Lib.hid hcv
                      have HQ1 := Lib.hid hq1
                      have HQ2 := Lib.hid hq2
                      clear hcv hbyA hq1 hq2 hby HJ
                      cases q1 with
                      | true =>
                        have HJ2 : Hid (endE L (fl, fc) (tl, tc) e0 (rowC sk k (j + 1) ++ cellR L tl (k + 1)) = FE) := Lib.hid (by rw [← HST.out, HIB.out, Bool.not_true, Bool.false_and, Bool.and_false, if_neg (by decide)])
                        go_wp2_with (first | (go_at_call 72; refine (rless_at _ _ _ _ _ HQ1).mono ?_; rintro e9 w9 ⟨rfl, hbl⟩; obtain ⟨y1, rfl⟩ := ovr_of_below hbl; clear hbl))
                        go_roundw
                        case rel => exact ⟨j + 1, e0, by omega, by go_num, HJ2, (hE.alloc _).ovr _, hBu.trans (But.of_below (by exact below_ovr2 (((Below.refl _ wr).alloc hXs _)) (by simp; omega)))⟩
                        case measure => simp [intOf]; omega
                      | false =>
                        cases q2 with
                        | false =>
                          have HJ2 : Hid (endE L (fl, fc) (tl, tc) e0 (rowC sk k (j + 1) ++ cellR L tl (k + 1)) = FE) := Lib.hid (by rw [← HST.out, HIB.out, Bool.and_false, Bool.and_false, if_neg (by decide)])
                          go_wp2_with (first | (go_at_call 72; refine (rless_at _ _ _ _ _ HQ1).mono ?_; rintro e9 w9 ⟨rfl, hbl⟩; obtain ⟨y1, rfl⟩ := ovr_of_below hbl; clear hbl; clear HQ1) | (go_at_call 72; refine (rless_at _ _ _ _ _ HQ2).mono ?_; rintro e9 w9 ⟨rfl, hbl⟩; obtain ⟨y2, rfl⟩ := ovr_of_below hbl; clear hbl))
                          go_roundw
                          case rel => exact ⟨j + 1, e0, by omega, by go_num, HJ2, ((hE.alloc _).ovr _).ovr _, hBu.trans (But.of_below (by exact below_ovr2 (below_ovr2 ((Below.refl _ wr).alloc hXs _) (by simp; omega)) (by simp; omega)))⟩
                          case measure => simp [intOf]; omega
                        | true =>
                          by_cases hc0 : cv = 0
                          · subst hc0
                            have HJ2 : Hid (endE L (fl, fc) (tl, tc) e0 (rowC sk k (j + 1) ++ cellR L tl (k + 1)) = FE) := Lib.hid (by rw [← HST.out, HIB.out]; rfl)
                            go_wp2_with (first | (go_at_call 72; refine (rless_at _ _ _ _ _ HQ1).mono ?_; rintro e9 w9 ⟨rfl, hbl⟩; obtain ⟨y1, rfl⟩ := ovr_of_below hbl; clear hbl; clear HQ1) | (go_at_call 72; refine (rless_at _ _ _ _ _ HQ2).mono ?_; rintro e9 w9 ⟨rfl, hbl⟩; obtain ⟨y2, rfl⟩ := ovr_of_below hbl; clear hbl) | (go_at_call 101; refine (rof_any _ _ _).mono ?_; rw [HCV.out]; rintro e9 w9 ⟨rfl, rfl⟩))
                            go_roundw
                            case rel => exact ⟨j + 1, e0, by omega, by go_num, HJ2, ((hE.alloc _).ovr _).ovr _, hBu.trans (But.of_below (by exact below_ovr2 (below_ovr2 ((Below.refl _ wr).alloc hXs _) (by simp; omega)) (by simp; omega)))⟩
                            case measure => simp [intOf]; omega
                          · have hcb : (cv == 0) = false := beq_eq_false_iff_ne.2 hc0
                            have HJ2 : Hid (endE L (fl, fc) (tl, tc) (k, j + 1) (rowC sk k (j + 1) ++ cellR L tl (k + 1)) = FE) := Lib.hid (by rw [← HST.out, HIB.out, hcb]; rfl)
                            go_wp2_with (first | (go_at_call 72; refine (rless_at _ _ _ _ _ HQ1).mono ?_; rintro e9 w9 ⟨rfl, hbl⟩; obtain ⟨y1, rfl⟩ := ovr_of_below hbl; clear hbl; clear HQ1) | (go_at_call 72; refine (rless_at _ _ _ _ _ HQ2).mono ?_; rintro e9 w9 ⟨rfl, hbl⟩; obtain ⟨y2, rfl⟩ := ovr_of_below hbl; clear hbl) | (go_at_call 101; refine (rof_any _ _ _).mono ?_; rw [HCV.out]; rintro e9 w9 ⟨rfl, rfl⟩))
                            go_roundw
                            case rel => exact ⟨j + 1, (k, j + 1), by omega, by go_num, HJ2, (((hE.set (.int .i64 (k : Int)) (.int .i64 ((j : Int) + 1))).alloc _).ovr _).ovr _, hBu.trans (((((But.refl _ _ wr).setCell (.inl (by simp)) _ _).setCell (.inl (by simp)) _ _).alloc (by simp; omega) _).trans (But.of_below (below_ovr2 ((below_ovr _ _).mono (by simp; omega)) (by simp; omega))))⟩
                            case measure => simp [intOf]; omega
                    · have hjI : ¬ (j : Int) < (sk.size : Int) := by omega
                      have HJ2 : Hid (endE L (fl, fc) (tl, tc) e0 (cellR L tl (k + 1)) = FE) := Lib.hid (by rw [← HJ.out, rowC_end (by omega), List.nil_append])
                      go_wp2
                      go_roundw
                      case rel => exact ⟨k + 1, e0, by omega, by go_num, HJ2, hE, hBu⟩
                      case measure => simp [intOf]; omega
                · have hktI : ¬ (k : Int) ≤ (tl : Int) := by omega
                  have hFEe : e0 = FE := by rw [← HK.out, cellR_end hkt]; rfl
                  subst hFEe
                  obtain ⟨el, ec⟩ := e0
                  have HR : Hid (sObjP L l c false = sentR L (S.take (h1 + 1)) (fl, fc) (el, ec)) := HR0
                  have hE0 := hE.c0
                  have hE1 := hE.c1
                  have tf0 : wr.frozen? ⟨Ab + 1, 0, none⟩ = false := (hBu.frozen (by omega) (by simp)).trans fB0
                  have tf1 : wr.frozen? ⟨Ab + 1, 1, none⟩ = false := (hBu.frozen (by omega) (by simp)).trans fB1
                  have cr0 : wr.cell? ⟨w.heap.size + 1, 0, none⟩ = some (.int .i64 0) := (hBu.cell (by omega) (by simp; omega)).trans dr0
                  have cr1 : wr.cell? ⟨w.heap.size + 1, 1, none⟩ = some (.int .i64 0) := (hBu.cell (by omega) (by simp; omega)).trans dr1
                  have cr2 : wr.cell? ⟨w.heap.size + 1, 2, none⟩ = some (.int .i64 0) := (hBu.cell (by omega) (by simp; omega)).trans dr2
                  have cr3 : wr.cell? ⟨w.heap.size + 1, 3, none⟩ = some (.int .i64 0) := (hBu.cell (by omega) (by simp; omega)).trans dr3
                  have cr4 : wr.cell? ⟨w.heap.size + 1, 4, none⟩ = some (.int .i64 0) := (hBu.cell (by omega) (by simp; omega)).trans dr4
                  have cf0 : wr.frozen? ⟨w.heap.size + 1, 0, none⟩ = false := (hBu.frozen (by omega) (by simp; omega)).trans df0
                  have cf1 : wr.frozen? ⟨w.heap.size + 1, 1, none⟩ = false := (hBu.frozen (by omega) (by simp; omega)).trans df1
                  have cf2 : wr.frozen? ⟨w.heap.size + 1, 2, none⟩ = false := (hBu.frozen (by omega) (by simp; omega)).trans df2
                  have cf3 : wr.frozen? ⟨w.heap.size + 1, 3, none⟩ = false := (hBu.frozen (by omega) (by simp; omega)).trans df3
                  have cf4 : wr.frozen? ⟨w.heap.size + 1, 4, none⟩ = false := (hBu.frozen (by omega) (by simp; omega)).trans df4
                  have lRw : w.heap.size + 1 < wr.heap.size := by omega
                  have lA : Ab < wr.heap.size := by omega
                  have lB2 : Ab + 1 < wr.heap.size := by omega
                  have n3 : ¬ w.heap.size = Ab := by omega
                  have n5 : ¬ w.heap.size + 1 = Ab := by omega
                  have n6 : ¬ Ab = w.heap.size + 1 := by omega
                  have n4 : ¬ w.heap.size + 1 = Ab + 1 := by omega
                  have hbwr : Below w.heap.size w wr := hBu.below hb4 (by omega) (by intro k hk; simp at hk; omega)
                  simp only at hE0 hE1
                  clear HK HR0 hE
                  by_cases hft : fl = el ∧ fc = ec
                  · obtain ⟨rfl, rfl⟩ := hft
                    have HY := Lib.hid (HR.out.trans (sentR_same L _ (fl, fc)))
                    go_wp2
                    refine bodyPost_ret (v := rngV noR) (by simp [results, Try.results86, go_sem, noR, cr0, cr1, cr2, cr3, cr4]) rfl ⟨by rw [HY.out], by (repeat (first | with_reducible exact Below.refl _ _ | (with_reducible refine Below.setCell ?_ ?_ _; rotate_left; · (first | exact Nat.le_refl _ | assumption | omega | (simp; done) | (simp; omega))) | (with_reducible refine Below.alloc ?_ ?_ _; rotate_left; · (first | exact Nat.le_refl _ | assumption | omega | (simp; done) | (simp; omega))) | with_reducible refine below_ovr_of ?_ | with_reducible refine drew_below ?_ _ | with_reducible refine Below.drew ?_ | with_reducible assumption))⟩
                  · have HY := Lib.hid (HR.out.trans (sentR_yes HSB.out hft))
                    by_cases hf1 : fl = el
                    · have hf2 : ¬ fc = ec := fun h => hft ⟨hf1, h⟩
                      have hf3 : ((fc : Int) == (ec : Int)) = false := beq_eq_false_iff_ne.2 (by omega)
                      subst hf1
                      clear hft
                      go_wp2_with (go_at_call 116; refine (char_any _ _ _ _ _).mono ?_; rintro e9 w9 ⟨rfl, hbl⟩; obtain ⟨x9, rfl⟩ := ovr_of_below hbl; clear hbl)
                      refine bodyPost_ret (v := rngV ((0, (fl : Int), (fc : Int), (fl : Int), (ec : Int)), true)) (by simp [results, Try.results86, go_sem, lRw, cr0, cr1, cr2, cr3, cr4]) rfl ⟨by rw [HY.out], by (repeat (first | with_reducible exact Below.refl _ _ | (with_reducible refine Below.setCell ?_ ?_ _; rotate_left; · (first | exact Nat.le_refl _ | assumption | omega | (simp; done) | (simp; omega))) | (with_reducible refine Below.alloc ?_ ?_ _; rotate_left; · (first | exact Nat.le_refl _ | assumption | omega | (simp; done) | (simp; omega))) | with_reducible refine below_ovr_of ?_ | with_reducible refine drew_below ?_ _ | with_reducible refine Below.drew ?_ | with_reducible assumption))⟩
                    · have hf3 : ((fl : Int) == (el : Int)) = false := beq_eq_false_iff_ne.2 (by omega)
                      clear hft
                      go_wp2_with (go_at_call 116; refine (char_any _ _ _ _ _).mono ?_; rintro e9 w9 ⟨rfl, hbl⟩; obtain ⟨x9, rfl⟩ := ovr_of_below hbl; clear hbl)
                      refine bodyPost_ret (v := rngV ((0, (fl : Int), (fc : Int), (el : Int), (ec : Int)), true)) (by simp [results, Try.results86, go_sem, lRw, cr0, cr1, cr2, cr3, cr4]) rfl ⟨by rw [HY.out], by (repeat (first | with_reducible exact Below.refl _ _ | (with_reducible refine Below.setCell ?_ ?_ _; rotate_left; · (first | exact Nat.le_refl _ | assumption | omega | (simp; done) | (simp; omega))) | (with_reducible refine Below.alloc ?_ ?_ _; rotate_left; · (first | exact Nat.le_refl _ | assumption | omega | (simp; done) | (simp; omega))) | with_reducible refine below_ovr_of ?_ | with_reducible refine drew_below ?_ _ | with_reducible refine Below.drew ?_ | with_reducible assumption))⟩
  | false =>
    have HON : Hid ((byteB L pl pc && decide ((1 : Int) ≤ 1)) = false) := Lib.hid (by rw [hb]; rfl)
    have HY := Lib.hid (sObjP_no (around := ar) hb)
    clear hb
    go_enter Try.func86, Try.ntmps86
    go_wp2_with (go_at_call 100; refine (on_at _ _ L _ _ _ _ (by (repeat (first | assumption | refine LinesAt.ovr ?_ _ | refine LinesAt.alloc ?_ _ | refine LinesAt.drewN ?_ _ | refine LinesAt.drew ?_))) HON).mono ?_; rintro e w1 ⟨rfl, hbl⟩; obtain ⟨x, rfl⟩ := ovr_of_below hbl; clear hbl)
    refine bodyPost_ret (v := rngV noR) (by simp [results, Try.results86, go_sem, noR]) rfl ⟨by rw [HY.out], by (repeat (first | with_reducible exact Below.refl _ _ | (with_reducible refine Below.setCell ?_ ?_ _; rotate_left; · (first | exact Nat.le_refl _ | assumption | omega | (simp; done) | (simp; omega))) | (with_reducible refine Below.alloc ?_ ?_ _; rotate_left; · (first | exact Nat.le_refl _ | assumption | omega | (simp; done) | (simp; omega))) | with_reducible refine below_ovr_of ?_ | with_reducible refine drew_below ?_ _ | with_reducible refine Below.drew ?_ | with_reducible assumption))⟩
end Go.Proofs.Ytlbbgocggifjaaa
