/- Layer 21: changes made to fit. Conditions: none beyond what each says. -/
import Derived.Test.YtnaceobbbfbhhaaChgM
import Derived.Test.YtnaceobbbfbhhaaChgE
import Derived.Test.YtnaceobbbfbhhaaChgJ
import Derived.Test.YtnaceobbbfbhhaaHPlace
namespace Go.Proofs.Ytnaceobbbfbhhaa
open Go.RowKit Go.Shelf

theorem LinesOff.piece {W : World} {lo : Nat} {v : Value} {M : List ByteArray} {ma : Option Addr} {mc j n : Nat} (h : LinesOff W lo v M (.slice ma M.length mc)) (hn : j + n ≤ M.length) : LinesOff W lo v ((M.drop j).take n) (.slice (if mc = j then ma else ma.map (fun x => x.add j)) n (mc - j)) := by
  obtain ⟨a, cap, e, hL, hc, ho⟩ := h
  cases e
  have hl : ((M.drop j).take n).length = n := by simp; omega
  refine ⟨_, _, by rw [hl], hL.piece hn hc, by rw [hl]; omega, fun g off e h0 => ?_⟩
  rw [hl] at h0
  rw [if_neg (by omega)] at e
  cases ma with
  | none => simp at e
  | some p =>
    obtain ⟨b, o, s⟩ := p
    obtain ⟨b', o', e', _⟩ := hL.1 0 (by omega)
    cases e'
    simp only [Option.map_some, add_none, Option.some.injEq, Addr.mk.injEq] at e
    obtain ⟨rfl, _, _⟩ := e
    exact ho _ _ rfl (by omega)
theorem chgRow_lt' {W : World} {n lo : Nat} {v : Value} {cs : List Chg} (h : ChgRow W n lo v cs) : ∀ g, v.ownBlock = some g → g < W.heap.size := by
  obtain ⟨rows, ho, _⟩ := h
  exact fun g e => (ho.lt g e).2
theorem chgs_new1 (X : World) {at_ : Int} {ao an : Option Addr} {co cn : Nat} {O N : List ByteArray} (hO : LinesAt X ao O) (hN : LinesAt X an N) (hOc : O.length ≤ co) (hNc : N.length ≤ cn) {no nn n : Nat} (eo : no = O.length) (en : nn = N.length) (hn : n = X.heap.size) :
    ChgsAt (X.alloc (.cells #[.int .i64 at_, .slice ao no co, .slice an nn cn] 40)) (some ⟨n, 0, none⟩) [(at_, O, N)] := by
  subst eo en hn
  intro i hi
  have h0 : i = 0 := by simpa using hi
  subst h0
  exact ⟨X.heap.size, 0, rfl, by simp, by simp [go_sem], ⟨ao, co, by simp [go_sem], hO.alloc _, hOc⟩, ⟨an, cn, by simp [go_sem], hN.alloc _, hNc⟩⟩
theorem applyAll_one (L : List ByteArray) (c : Chg) : applyAll L [c] = applyP L c := by
  simp only [applyAll]
  cases applyP L c <;> rfl
/-- One round of changes made to fit. -/
theorem made_ways {M : List ByteArray} {P cs : List Chg} {k : Nat} {R : List Chg} (hk : k < cs.length) (hR : P ++ madeP M (cs.drop k) = R) (hs : sizeP M + sizeN (cs.drop k) ≤ 33000) :
    (applyP M (fitC M (cs.getD k (0, [], []))) = none ∧ P ++ madeP M (cs.drop (k + 1)) = R ∧ sizeP M + sizeN (cs.drop (k + 1)) ≤ 33000) ∨
    ∃ M', applyP M (fitC M (cs.getD k (0, [], []))) = some M' ∧ (P ++ [fitC M (cs.getD k (0, [], []))]) ++ madeP M' (cs.drop (k + 1)) = R ∧ sizeP M' + sizeN (cs.drop (k + 1)) ≤ 33000 := by
  rw [drop_at hk] at hR hs
  rw [sizeN_cons] at hs
  rw [madeP] at hR
  cases h : applyP M (fitC M (cs.getD k (0, [], []))) with
  | none => rw [h] at hR; exact .inl ⟨rfl, hR, by omega⟩
  | some M' =>
    rw [h] at hR
    have := applyP_size h
    have e : (fitC M (cs.getD k (0, [], []))).2.2 = (cs.getD k (0, [], [])).2.2 := rfl
    rw [e] at this
    exact .inr ⟨M', rfl, by rw [← hR]; simp, by omega⟩
theorem made_end {M : List ByteArray} {P cs : List Chg} {k : Nat} {R : List Chg} (hk : ¬ k < cs.length) (hR : P ++ madeP M (cs.drop k) = R) : P = R := by
  rw [List.drop_eq_nil_of_le (by omega), madeP, List.append_nil] at hR
  exact hR
set_option maxRecDepth 100000 in
set_option maxHeartbeats 3300000 in
theorem made_any (a b : Option Addr) (cap cc : Nat) (L : List ByteArray) (cs : List Chg) (w : World) (hL : LinesAt w a L) (hc : L.length ≤ cap) (hC : ChgsAt w b cs) (hs : sizeP L + sizeN cs ≤ 33000) (hsn : sizeC cs ≤ 33000) (hn : cs.length ≤ 1000) :
    Calls Try.prog 24 #[.slice a L.length cap, .slice b cs.length cc] w fun e w' => (∃ v, e = .returned v ∧ ChgRow w' w.heap.size 0 v (madeP L cs)) ∧ Below w.heap.size w w' := by
  obtain ⟨i0, hi, hz0, hz1, hz2⟩ := info_parts infoChg
  obtain ⟨R, hR⟩ : ∃ R, madeP L cs = R := ⟨_, rfl⟩
  rw [hR]
  have HC := Lib.hid hC
  have HR : Hid ([] ++ madeP L (cs.drop 0) = R ∧ ([] : List Chg).length ≤ 0 ∧ sizeP L + sizeN (cs.drop 0) ≤ 33000) := Lib.hid ⟨by rw [List.nil_append, List.drop_zero, hR], Nat.le_refl _, by rw [List.drop_zero]; exact hs⟩
  clear hC hR hs
  go_enter Try.func24, Try.ntmps24
  go_wp2_with fail
  go_loopw [5, 6, 7] (fun v u i wr => ∃ (k : Nat) (M : List ByteArray) (ma : Option Addr) (mc : Nat) (P : List Chg), k ≤ cs.length ∧ i = .int .i64 k ∧ u = .slice ma M.length mc ∧ LinesOff wr 0 v M (.slice ma M.length mc) ∧ ChgRow wr w.heap.size 0 v P ∧ (∃ x, wr = ovr w x) ∧ Hid (P ++ madeP M (cs.drop k) = R ∧ P.length ≤ k ∧ sizeP M + sizeN (cs.drop k) ≤ 33000)) (fun _ _ i _ => cs.length - (intOf i).toNat)
  case atStart => exact ⟨0, L, a, cap, [], Nat.zero_le _, rfl, rfl, ⟨a, cap, rfl, hL, hc, fun g off e h0 => ⟨Nat.zero_le _, by simp [Value.ownBlock]⟩⟩, ChgRow.nil _ _ _, ⟨{ w with heap := #[] }, by simp [ovr]⟩, HR⟩
  case round =>
    obtain ⟨k, M, ma, mc, P, hk, rfl, rfl, hMo, hrow, ⟨z, rfl⟩, HM⟩ := hrel
    by_cases hlt : k < cs.length
    · have hltI : (k : Int) < (cs.length : Int) := by omega
      have hk0 : (0 : Int) ≤ (k : Int) := by omega
      have hway := made_ways hlt HM.out.1 HM.out.2.2
      have hPk : P.length ≤ k := HM.out.2.1
      have hMs : sizeP M ≤ 33000 := by have := HM.out.2.2; omega
      have hMl := len_sizeP M
      have hgs := sizeC_get hlt
      obtain ⟨g, off, rfl, hg, e0, ⟨ao, co, e1, hO, hOc⟩, ⟨an, cn, e2, hN, hNc⟩⟩ := HC.out k hlt
      obtain ⟨⟨at_, O, N⟩, hcc⟩ : ∃ c, cs.getD k (0, [], []) = c := ⟨_, rfl⟩
      rw [hcc] at e0 e1 e2 hO hN hOc hNc hway hgs
      simp only at e0 e1 e2 hO hN hOc hNc hgs
      have hOl := len_sizeP O
      obtain ⟨_, _, he, hMa, hMc, hMoff⟩ := id hMo
      cases he
      have h1 := Int.emod_nonneg at_ (show ((M.length : Int) + 1) ≠ 0 by omega)
      have h2 := Int.emod_lt_of_pos at_ (show 0 < ((M.length : Int) + 1) by omega)
      obtain ⟨j, hj⟩ := Int.eq_ofNat_of_zero_le h1
      have hjM : j ≤ M.length := by omega
      obtain ⟨n, hnn⟩ : ∃ n : Nat, n = min O.length (M.length - j) := ⟨_, rfl⟩
      have hfit : fitC M (at_, O, N) = ((j : Int), (M.drop j).take n, N) := by
        simp only [fitC, hj, Int.toNat_natCast]
        congr 2
        rw [List.take_eq_take_iff, hnn, List.length_drop]
        omega
      rw [hfit] at hway
      have hmin : min (O.length : Int) ((M.length : Int) - (j : Int)) = (n : Int) := by omega
      have hP := hMa.piece (lo := j) (n := n) (cap := mc) (by omega) hMc
      have hPl : ((M.drop j).take n).length = n := by simp; omega
      clear hcc HC
      go_wp2_with (go_at_call 36; refine (hplace_any' _ _ (by omega) (by omega) _).mono ?_; rw [hj]; rintro e w1 ⟨rfl, rfl⟩)
      all_goals first | rw [show (O.length : Int) = (n : Int) by omega] | rw [show (M.length : Int) - (j : Int) = (n : Int) by omega]
      all_goals (
        have hb5 := below_ovr w z
        have p2 : (ovr w z).cell? ⟨g, off + k * 3 + 2, none⟩ = some (.slice an N.length cn) := (hb5.cell hg).trans e2
        have lg : g < (ovr w z).heap.size := by simp; omega
        have hkc : (j : Int) + (n : Int) ≤ (mc : Int) := by omega
        have hk3 : (j : Int) ≤ (j : Int) + (n : Int) := by omega
        have hk4 : ((j : Int) + (n : Int)).toNat = j + n := by omega
        have hk5 : IntKind.i64.wrap ((j : Int) + (n : Int)) = (j : Int) + (n : Int) := IntWalk.i64_in _ (by omega)
        have hk6 : (0 : Int) ≤ (j : Int) + (n : Int) := by omega
        obtain ⟨A1, hA1⟩ : ∃ A1, (if mc = j then ma else ma.map (fun x => x.add j)) = A1 := ⟨_, rfl⟩
        rw [hA1] at hP
        have hj0 : (0 : Int) ≤ (j : Int) := by omega
        have HPL := Lib.hid hPl
        clear hnn hmin hPl h1 h2 hj hfit
        refine name_world ?_
        intro W5 hW5
        rw [← hW5] at p2 lg hMo hrow hMa hP hb5
        clear hW5
        go_region_held3 (fun w' => w'.cell? ⟨g, off + k * 3 + 2, none⟩ = some (.slice an N.length cn)) ((first | assumption | (simp [go_sem]; done) | (simp [go_sem, p2, lg]; done))) ((fail)))
      all_goals (
        refine name_worldE ?_
        intro W6 hW6
        have hb6 : Below W5.heap.size W5 W6 := by rw [hW6]; (repeat (first | with_reducible exact Below.refl _ _ | (with_reducible refine Below.setCell ?_ ?_ _; rotate_left; · (first | exact Nat.le_refl _ | assumption | omega | (simp; done) | (simp; omega))) | (with_reducible refine Below.alloc ?_ ?_ _; rotate_left; · (first | exact Nat.le_refl _ | assumption | omega | (simp; done) | (simp; omega))) | with_reducible refine below_ovr_of ?_ | with_reducible refine drew_below ?_ _ | with_reducible refine Below.drew ?_ | with_reducible assumption))
        have hb56 := hb5.trans (hb6.mono hb5.size)
        have l5 := hb5.size
        have l6 : W5.heap.size < W6.heap.size := by rw [hW6]; simp
        have c0 : W6.cell? ⟨W5.heap.size, 0, none⟩ = some (.int .i64 (j : Int)) := by rw [hW6]; simp [go_sem]
        have c1 : W6.cell? ⟨W5.heap.size, 1, none⟩ = some (.slice A1 n (mc - j)) := by rw [hW6]; simp [go_sem]
        have c2 : W6.cell? ⟨W5.heap.size, 2, none⟩ = some (.slice an N.length cn) := by rw [hW6]; simp [go_sem]
        have hM6 := hMa.below hb6 (Nat.le_refl _)
        have hP6 := hP.below hb6 (Nat.le_refl _)
        have hN6 := hN.below hb56 (Nat.le_refl _)
        have hnc : n ≤ mc - j := by omega
        have hO5 := hMo.piece (j := j) (n := n) (by have := HPL.out; simp at this; omega)
        rw [hA1] at hO5
        have hC6 := chgs_new1 W6 (at_ := (j : Int)) hP6 hN6 (co := mc - j) (by rw [HPL.out]; exact hnc) hNc HPL.out.symm rfl rfl
        have hsz6 : sizeP M + sizeC [((j : Int), (M.drop j).take n, N)] ≤ 100000 := by
          have q1 := sizeP_take (M.drop j) n
          have q2 := sizeP_drop M j
          rw [sizeC_cons]
          simp only [sizeC, List.map_nil, List.sum_nil]
          omega
        have hjb : (j : Int) ≤ 100000 := by omega
        have hw6 : ∀ c ∈ [((j : Int), (M.drop j).take n, N)], (-9223372036854775808 : Int) ≤ c.1 ∧ c.1 ≤ 9223372036854775807 := by
          intro c hc
          obtain rfl : c = _ := by simpa using hc
          simp only
          omega
        clear hW6 hA1
        go_wp2_with fail
        go_at_call 26
        refine (rapplies_any _ _ _ _ M [((j : Int), (M.drop j).take n, N)] _ (hM6.alloc _) hC6 hsz6 (by simp) hw6).mono ?_
        rintro e w7 ⟨⟨v', rfl, hv⟩, hbl⟩
        rw [applyAll_one] at hv
        have hb67 : Below W6.heap.size W6 w7 := ((Below.refl _ W6).alloc (Nat.le_refl _) _).trans (hbl.mono (by simp))
        have hb57 : Below W5.heap.size W5 w7 := hb6.trans (hb67.mono hb6.size)
        have hb7 : Below w.heap.size w w7 := hb5.trans (hb57.mono hb5.size)
        have hrow7 := hrow.below hb57
        have hMo7 := hMo.grown (grown_below' hb57 none) (fun g e => by cases e)
        rcases hway with ⟨hno, hR', hs'⟩ | ⟨M', hyes, hR', hs'⟩
        · rw [hno] at hv
          have hv' : v' = .tuple #[.slice none 0 0, .bool false] := hv
          subst hv'
          have HR2 : Hid (P ++ madeP M (cs.drop (k + 1)) = R ∧ P.length ≤ k + 1 ∧ sizeP M + sizeN (cs.drop (k + 1)) ≤ 33000) := Lib.hid ⟨hR', by omega, hs'⟩
          clear hv hno hbl hb67 hR' hs' hb6 hb56 hk5
          go_wp2_with fail
          go_roundw
          case rel => exact ⟨k + 1, M, ma, mc, P, by omega, by go_num, rfl, hMo7, hrow7, ovr_of_below hb7, HR2⟩
          case measure => simp [intOf]; omega
        · rw [hyes] at hv
          obtain ⟨a', c', rfl, hM', hMc', hfr⟩ := hv
          have d0 := (hb67.cell (p := ⟨W5.heap.size, 0, none⟩) l6).trans c0
          have d1 := (hb67.cell (p := ⟨W5.heap.size, 1, none⟩) l6).trans c1
          have d2 := (hb67.cell (p := ⟨W5.heap.size, 2, none⟩) l6).trans c2
          obtain ⟨rows, hown, hrl, hrc⟩ := id hrow7
          have b1 : P.length + 1 ≤ maxLen := by unfold maxLen; omega
          have b2 : (P.length + 1) * 56 ≤ 140737488355328 := by omega
          have hb7s := hb7.size
          have HR2 : Hid ((P ++ [((j : Int), (M.drop j).take n, N)]) ++ madeP M' (cs.drop (k + 1)) = R ∧ (P ++ [((j : Int), (M.drop j).take n, N)]).length ≤ k + 1 ∧ sizeP M' + sizeN (cs.drop (k + 1)) ≤ 33000) := Lib.hid ⟨hR', by simp; omega, hs'⟩
          clear hk5 hR' hs' hyes
          go_wp2_with (at_builtin; refine wpList_append_src _ rfl _ _ 23 rfl w.heap.size 40 i0 _ 3 56 Try.underlying23 hi hz0 hz1 hz2 rfl (by decide) _ P.length (cellsC rows) rfl (hown.alloc _) _ 1 1 [.int .i64 (j : Int), .slice A1 n (mc - j), .slice an N.length cn] rfl (src_new3 _ _ _ _ _ rfl rfl rfl rfl) b1 b2 (by simp; omega) ?_; intro v2 w8 hown2 hgrow2 hat2)
          have hb78 : Below w7.heap.size w7 (w7.alloc (.cells #[.int .i64 (j : Int), .slice A1 n (mc - j), .slice an N.length cn] 40)) := (Below.refl _ w7).alloc (Nat.le_refl _) _
          have hbase := chgRow_base hrow7
          have oN := linesOff_of (lo := 0) hN hNc (hb7.trans (hb78.mono hb7s)) (fun _ _ _ _ => Nat.zero_le _) hbase (Nat.le_refl _)
          have oO := hO5.grown (grown_below' (hb57.trans (hb78.mono hb57.size)) none) (fun g e => by cases e)
          have hnew := ChgRow.more (c := ((j : Int), (M.drop j).take n, N)) hrl (rows_below hb78 hrc) oO oN hgrow2 hat2 hown2
          have oM := LinesOff.appended (lo := 0) ⟨a', c', rfl, hM'.alloc _, hMc', fun g off e _ => ⟨Nat.zero_le _, fun ev => by
            have q1 := hfr g off e
            have q2 := chgRow_lt' hrow g ev
            simp only [World.size_alloc] at q1
            omega⟩⟩ hgrow2 hat2
          have hb8 := (hb7.trans (hb78.mono hb7s)).grown hgrow2 (by simp; omega) hbase
          clear hown2 hgrow2 hat2 hown hi hz0 hz1 hz2
          go_wp2_with fail
          go_roundw
          case rel => exact ⟨k + 1, M', a', c', _, by omega, by go_num, rfl, oM, hnew, ovr_of_below hb8, HR2⟩
          case measure => simp [intOf]; omega)
    · have hRe := made_end hlt HM.out.1
      have hltI : ¬ (k : Int) < (cs.length : Int) := by omega
      rw [hRe] at hrow
      go_wp2_with fail
      go_ret
      exact ⟨⟨_, rfl, hrow⟩, by (repeat (first | with_reducible exact Below.refl _ _ | (with_reducible refine Below.setCell ?_ ?_ _; rotate_left; · (first | exact Nat.le_refl _ | assumption | omega | (simp; done) | (simp; omega))) | (with_reducible refine Below.alloc ?_ ?_ _; rotate_left; · (first | exact Nat.le_refl _ | assumption | omega | (simp; done) | (simp; omega))) | with_reducible refine below_ovr_of ?_ | with_reducible refine drew_below ?_ _ | with_reducible refine Below.drew ?_ | with_reducible assumption))⟩
end Go.Proofs.Ytnaceobbbfbhhaa
