/- The reference's Inverse. Conditions: lengths that a machine bears. -/
import Derived.Test.YtnaceobbbfbhhaaChgR
import Derived.Test.YtnaceobbbfbhhaaChgL
namespace Go.Proofs.Ytnaceobbbfbhhaa
open Go.RowKit Go.Shelf

theorem infoChg : (Try.prog.info? 40).map (fun i => (i.zero, i.size, i.bytes)) = some (some (.agg #[.int .i64 0, .slice none 0 0, .slice none 0 0]), 3, 56) := by kernel_rfl
theorem invP_len (cs : List Chg) : (invP cs).length = cs.length := by simp [invP]
theorem invP_take {cs : List Chg} {m : Nat} (h : m < cs.length) : (invP cs).take (cs.length - m) = (invP cs).take (cs.length - (m + 1)) ++ [((cs.getD m (0, [], [])).1, (cs.getD m (0, [], [])).2.2, (cs.getD m (0, [], [])).2.1)] := by
  rw [show cs.length - m = cs.length - (m + 1) + 1 by omega, List.take_add_one]
  congr 1
  simp only [invP]
  rw [List.getElem?_reverse (by simp; omega), List.getElem?_map, List.length_map, show cs.length - 1 - (cs.length - (m + 1)) = m by omega, List.getD_eq_getElem?_getD, List.getElem?_eq_getElem h]
  rfl
theorem invP_take_len {cs : List Chg} {m : Nat} (h : m ≤ cs.length) : ((invP cs).take (cs.length - m)).length = cs.length - m := by rw [List.length_take, invP_len]; omega
/-- A struct of three cells, just made, as what an append reads. -/
theorem src_new3 (W : World) (a b c : Value) (t : TypeId) (h1 : a.oneCell' = true) (h2 : b.oneCell' = true) (h3 : c.oneCell' = true) {n : Nat} (hn : n = W.heap.size) : Src (W.alloc (.cells #[a, b, c] t)) (some ⟨n, 0, none⟩) 1 3 [a, b, c] := by
  subst hn
  refine ⟨rfl, by intro u hu; simp at hu; rcases hu with rfl | rfl | rfl <;> assumption, .inr ⟨W.heap.size, 0, rfl, by simp, fun j u hj => ?_⟩⟩
  rw [addr_add]
  match j, hj with
  | 0, hj => simp at hj; subst hj; simp [go_sem]
  | 1, hj => simp at hj; subst hj; simp [go_sem]
  | 2, hj => simp at hj; subst hj; simp [go_sem]
theorem linesOff_of {X W : World} {n lo : Nat} {v : Value} {a : Option Addr} {cap : Nat} {L : List ByteArray} (h : LinesAt W a L) (hc : L.length ≤ cap) (hb : Below W.heap.size W X) (hlo : ∀ g off, a = some ⟨g, off, none⟩ → 0 < L.length → lo ≤ g)
    (hv : ∀ g, v.ownBlock = some g → n ≤ g) (hn : W.heap.size ≤ n) : LinesOff X lo v L (.slice a L.length cap) :=
  ⟨a, cap, rfl, h.below hb (Nat.le_refl _), hc, fun g off e h0 => ⟨hlo g off e h0, fun ev => by
    have := hv g ev
    subst e
    have := h.lt h0
    omega⟩⟩
theorem chgRow_base {W : World} {n lo : Nat} {v : Value} {cs : List Chg} (h : ChgRow W n lo v cs) : ∀ g, v.ownBlock = some g → n ≤ g := by
  obtain ⟨rows, ho, _⟩ := h
  exact fun g e => (ho.lt g e).1
set_option maxRecDepth 100000 in
set_option maxHeartbeats 4000000 in
theorem rinv_any (b : Option Addr) (cc : Nat) (cs : List Chg) (w : World) (hC : ChgsAt w b cs) (hn : cs.length ≤ 100000) :
    Calls Try.prog 32 #[.slice b cs.length cc] w fun e w' => (∃ v, e = .returned v ∧ ChgRow w' w.heap.size 0 v (invP cs)) ∧ Below w.heap.size w w' := by
  obtain ⟨i0, hi, hz0, hz1, hz2⟩ := info_parts infoChg
  have HC := Lib.hid hC
  have hw0 : IntKind.i64.wrap ((cs.length : Int) - 1) = (cs.length : Int) - 1 := IntWalk.i64_in _ (by omega)
  clear hC
  go_enter Try.func32, Try.ntmps32
  go_wp2_with fail
  clear hw0
  go_loopw [3, 4] (fun v i wr => ∃ (k : Nat), k ≤ cs.length ∧ i = .int .i64 ((k : Int) - 1) ∧ ChgRow wr w.heap.size 0 v ((invP cs).take (cs.length - k)) ∧ (∃ x, wr = ovr w x)) (fun _ i _ => (intOf i + 1).toNat)
  case atStart => exact ⟨cs.length, Nat.le_refl _, rfl, by rw [Nat.sub_self, List.take_zero]; exact ChgRow.nil _ _ _, ⟨{ w with heap := #[] }, by simp [ovr]⟩⟩
  case round =>
    obtain ⟨k, hk, rfl, hrow, z, rfl⟩ := hrel
    rcases k with _ | m
    · rw [Nat.sub_zero, List.take_of_length_le (by rw [invP_len]; omega)] at hrow
      go_wp2_with fail
      go_ret
      exact ⟨⟨_, rfl, hrow⟩, by (repeat (first | with_reducible exact Below.refl _ _ | (with_reducible refine Below.setCell ?_ ?_ _; rotate_left; · (first | exact Nat.le_refl _ | assumption | omega | (simp; done) | (simp; omega))) | (with_reducible refine Below.alloc ?_ ?_ _; rotate_left; · (first | exact Nat.le_refl _ | assumption | omega | (simp; done) | (simp; omega))) | with_reducible refine below_ovr_of ?_ | with_reducible refine drew_below ?_ _ | with_reducible refine Below.drew ?_ | with_reducible assumption))⟩
    · have hmi : (((m + 1 : Nat) : Int) - 1) = (m : Int) := by omega
      rw [hmi]
      have hm0 : (0 : Int) ≤ (m : Int) := by omega
      have hlt : m < cs.length := by omega
      have hltI : (m : Int) < (cs.length : Int) := by omega
      obtain ⟨g, off, rfl, hg, e0, ⟨ao, co, e1, hO, hOc⟩, ⟨an, cn, e2, hN, hNc⟩⟩ := HC.out m hlt
      have HT := Lib.hid (invP_take hlt)
      obtain ⟨⟨at_, O, N⟩, hcc⟩ : ∃ c, cs.getD m (0, [], []) = c := ⟨_, rfl⟩
      have HT2 : Hid ((invP cs).take (cs.length - m) = (invP cs).take (cs.length - (m + 1)) ++ [(at_, N, O)]) := Lib.hid (by rw [HT.out, hcc])
      have hJ := invP_take_len (cs := cs) (m := m + 1) (by omega)
      rw [hcc] at e0 e1 e2 hO hN hOc hNc
      simp only at e0 e1 e2 hO hN hOc hNc
      obtain ⟨P0, hP0⟩ : ∃ P0, (invP cs).take (cs.length - (m + 1)) = P0 := ⟨_, rfl⟩
      rw [hP0] at hrow hJ HT2
      clear HT hcc hP0 HC
      obtain ⟨rows, hown, hrl, hrc⟩ := id hrow
      refine name_world ?_
      intro W5 hW5
      have hb5 : Below w.heap.size w W5 := by rw [hW5]; (repeat (first | with_reducible exact Below.refl _ _ | (with_reducible refine Below.setCell ?_ ?_ _; rotate_left; · (first | exact Nat.le_refl _ | assumption | omega | (simp; done) | (simp; omega))) | (with_reducible refine Below.alloc ?_ ?_ _; rotate_left; · (first | exact Nat.le_refl _ | assumption | omega | (simp; done) | (simp; omega))) | with_reducible refine below_ovr_of ?_ | with_reducible refine drew_below ?_ _ | with_reducible refine Below.drew ?_ | with_reducible assumption))
      have p0 : W5.cell? ⟨g, off + m * 3, none⟩ = some (.int .i64 at_) := (hb5.cell hg).trans e0
      have p1 : W5.cell? ⟨g, off + m * 3 + 1, none⟩ = some (.slice ao O.length co) := (hb5.cell hg).trans e1
      have p2 : W5.cell? ⟨g, off + m * 3 + 2, none⟩ = some (.slice an N.length cn) := (hb5.cell hg).trans e2
      rw [← hW5] at hrow hown hrc
      have lg : g < W5.heap.size := Nat.lt_of_lt_of_le hg hb5.size
      have hbase := chgRow_base hrow
      clear hW5
      go_wp2_with fail
      have b1 : P0.length + 1 ≤ maxLen := by unfold maxLen; omega
      have b2 : (P0.length + 1) * 56 ≤ 140737488355328 := by omega
      have hb6 := hb5.size
      go_region_held3 (fun w' => w'.cell? ⟨g, off + m * 3, none⟩ = some (.int .i64 at_) ∧ w'.cell? ⟨g, off + m * 3 + 1, none⟩ = some (.slice ao O.length co) ∧ w'.cell? ⟨g, off + m * 3 + 2, none⟩ = some (.slice an N.length cn)) (((repeat' apply And.intro) <;> first | assumption | (simp [go_sem]; done) | (simp [go_sem, p0, p1, p2, lg]; done))) ((refine step_append_src _ (by rfl) _ _ 23 (by rfl) w.heap.size 40 i0 _ 3 56 Try.underlying23 hi hz0 hz1 hz2 rfl (by decide) _ P0.length (cellsC rows) (by rfl) (hown.drew.alloc _) _ 1 1 [.int .i64 at_, .slice an N.length cn, .slice ao O.length co] (by rfl) (src_new3 _ _ _ _ _ rfl rfl rfl rfl) b1 b2 (by simp; omega) ?_; intro v2 w2 hown2 hgrow2 hat2; have hbe : Below w.heap.size W5 w2 := (((Below.refl w.heap.size W5).drew).alloc hb6 _).grown hgrow2 (by simp; omega) hbase; have r0 := (hbe.cell hg).trans p0; have r1 := (hbe.cell hg).trans p1; have r2 := (hbe.cell hg).trans p2))
      all_goals (
        have hXb : Below W5.heap.size W5 (W5.drew.alloc (.cells #[.int .i64 at_, .slice an N.length cn, .slice ao O.length co] 40)) := ((Below.refl _ W5).drew).alloc (Nat.le_refl _) _
        have hXw := hb5.trans (hXb.mono hb5.size)
        have hnew := ChgRow.more (c := (at_, N, O)) hrl (rows_below hXb hrc) (linesOff_of hN hNc hXw (fun _ _ _ _ => Nat.zero_le _) hbase (Nat.le_refl _)) (linesOff_of hO hOc hXw (fun _ _ _ _ => Nat.zero_le _) hbase (Nat.le_refl _)) hgrow2 hat2 hown2
        rw [← HT2.out] at hnew
        have hbw := hb5.trans (hbe.mono (Nat.le_refl _))
        obtain ⟨y2, rfl⟩ := ovr_of_below hbw
        clear hi hz0 hz1 hz2 hown2 hgrow2 hat2 hown hXb hXw
        go_wp2_with fail
        go_roundw
        case rel => exact ⟨m, by omega, by go_num, hnew, ovr_of_below (by (repeat (first | with_reducible exact Below.refl _ _ | (with_reducible refine Below.setCell ?_ ?_ _; rotate_left; · (first | exact Nat.le_refl _ | assumption | omega | (simp; done) | (simp; omega))) | (with_reducible refine Below.alloc ?_ ?_ _; rotate_left; · (first | exact Nat.le_refl _ | assumption | omega | (simp; done) | (simp; omega))) | with_reducible refine below_ovr_of ?_ | with_reducible refine drew_below ?_ _ | with_reducible refine Below.drew ?_ | with_reducible assumption)))⟩
        case measure => simp [intOf])
end Go.Proofs.Ytnaceobbbfbhhaa
