/- The contracts of one change: the program's and the reference's. Conditions: lengths that a machine bears. -/
import Derived.Test.YtnaceobbbfbhhaaChg
import Derived.Deep.RegionHeld3
namespace Go.Proofs.Ytnaceobbbfbhhaa
open Go.RowKit

/-- What a change comes to, as a value. -/
def AppV (w' : World) (r : Option (List ByteArray)) (v : Value) : Prop :=
  match r with
  | none => v = .tuple #[.slice none 0 0, .bool false]
  | some M => ∃ a c, v = .tuple #[.slice a M.length c, .bool true] ∧ LinesAt w' a M ∧ M.length ≤ c
/-- The same, with lines in no block below n. -/
def AppF (n : Nat) (w' : World) (r : Option (List ByteArray)) (v : Value) : Prop :=
  match r with
  | none => v = .tuple #[.slice none 0 0, .bool false]
  | some M => ∃ a c, v = .tuple #[.slice a M.length c, .bool true] ∧ LinesAt w' a M ∧ M.length ≤ c ∧ ∀ g off, a = some ⟨g, off, none⟩ → n ≤ g
theorem applyP_ways {L O N : List ByteArray} {at_ : Int} : applyP L (at_, O, N) = none ∧ (at_ < 0 ∨ (0 ≤ at_ ∧ (L.length : Int) < at_) ∨ (0 ≤ at_ ∧ at_ ≤ L.length ∧ (L.length : Int) - at_ < O.length) ∨ (0 ≤ at_ ∧ at_ ≤ L.length ∧ (O.length : Int) ≤ (L.length : Int) - at_ ∧ (L.length : Int) - O.length + N.length = 0) ∨
      (∃ k : Nat, at_ = k ∧ k + O.length ≤ L.length ∧ (L.length : Int) - O.length + N.length ≠ 0 ∧ eqB ((L.drop k).take O.length) O = false)) ∨
    ∃ k : Nat, at_ = k ∧ k + O.length ≤ L.length ∧ (L.length : Int) - O.length + N.length ≠ 0 ∧ eqB ((L.drop k).take O.length) O = true ∧ applyP L (at_, O, N) = some (L.take k ++ (N ++ L.drop (k + O.length))) := by
  by_cases h1 : 0 ≤ at_
  · obtain ⟨k, rfl⟩ := Int.eq_ofNat_of_zero_le h1
    by_cases h2 : k ≤ L.length
    · by_cases h3 : k + O.length ≤ L.length
      · by_cases h4 : (L.length : Int) - O.length + N.length = 0
        · exact .inl ⟨applyP_no (fun h => h.2.2.2.1 h4), .inr (.inr (.inr (.inl ⟨h1, by omega, by omega, h4⟩)))⟩
        · by_cases h5 : (L.drop k).take O.length = O
          · exact .inr ⟨k, rfl, h3, h4, decide_eq_true h5, applyP_yes h3 (by omega) h5⟩
          · exact .inl ⟨applyP_no (fun h => h5 (by simpa using h.2.2.2.2)), .inr (.inr (.inr (.inr ⟨k, rfl, h3, h4, decide_eq_false h5⟩)))⟩
      · exact .inl ⟨applyP_no (fun h => by have := h.2.2.1; simp only at this; omega), .inr (.inr (.inl ⟨h1, by omega, by omega⟩))⟩
    · exact .inl ⟨applyP_no (fun h => by have := h.2.1; simp only at this; omega), .inr (.inl ⟨h1, by omega⟩)⟩
  · exact .inl ⟨applyP_no (fun h => h1 h.1), .inl (by omega)⟩
theorem cat3x_any (X : World) (L1 L2 L3 : List ByteArray) (a1 a2 a3 : Option Addr) (n1 n2 n3 c1 c2 c3 B : Nat) (e1 : L1.length = n1) (e2 : L2.length = n2) (e3 : L3.length = n3) (k0 : X.cell? ⟨B, 0, none⟩ = some (.slice a1 n1 c1)) (k1 : X.cell? ⟨B, 1, none⟩ = some (.slice a2 n2 c2)) (k2 : X.cell? ⟨B, 2, none⟩ = some (.slice a3 n3 c3)) (h1 : LinesAt X a1 L1) (h2 : LinesAt X a2 L2) (h3 : LinesAt X a3 L3) (hs : sizeP L1 + sizeP L2 + sizeP L3 ≤ 100000) :
    Calls Try.prog 113 #[.slice (some ⟨B, 0, none⟩) 3 3] X fun e w' =>
      ∃ a c, e = .returned (.slice a (L1 ++ (L2 ++ L3)).length c) ∧ LinesAt w' a (L1 ++ (L2 ++ L3)) ∧ (L1 ++ (L2 ++ L3)).length ≤ c ∧ Below X.heap.size X w' := by
  subst e1 e2 e3
  have l1 := len_sizeP L1
  have l2 := len_sizeP L2
  have l3 := len_sizeP L3
  obtain ⟨V, hV⟩ : ∃ V : List Sl, V = [(a1, L1.length, c1, L1.map Value.string), (a2, L2.length, c2, L2.map Value.string), (a3, L3.length, c3, L3.map Value.string)] := ⟨_, rfl⟩
  have hS : SlsAt X B 0 1 V := by
    subst hV
    refine ⟨World.block_lt_of_cell? _ _ k0, fun k hk => ?_⟩
    have hk3 : k < 3 := by simpa using hk
    rcases (by omega : k = 0 ∨ k = 1 ∨ k = 2) with rfl | rfl | rfl
    · exact ⟨k0, Src.of_lines h1⟩
    · exact ⟨k1, Src.of_lines h2⟩
    · exact ⟨k2, Src.of_lines h3⟩
  have hm : sumM V = (L1 ++ (L2 ++ L3)).length := by subst hV; simp [sumM]
  have hc : catV V = (L1 ++ (L2 ++ L3)).map Value.string := by subst hV; simp [catV]
  have hl : V.length = 3 := by subst hV; rfl
  have := concatS_any B 0 3 V _ hS (by omega) (by rw [hm]; simp only [List.length_append]; omega)
  rw [hl] at this
  refine this.mono ?_
  rintro e w' ⟨v, rfl, hrow, hbl⟩
  rw [hm, hc] at hrow
  obtain ⟨a, c, rfl, hp, hc2⟩ := lines_of_owns hrow rfl (by rw [sizeP_app, sizeP_app]; omega)
  exact ⟨a, c, rfl, hp, hc2, hbl⟩
theorem cat3x_at (X : World) (L1 L2 L3 M : List ByteArray) (hM : Hid (L1 ++ (L2 ++ L3) = M)) (a1 a2 a3 : Option Addr) (n1 n2 n3 c1 c2 c3 B : Nat) (e1 : L1.length = n1) (e2 : L2.length = n2) (e3 : L3.length = n3) (k0 : X.cell? ⟨B, 0, none⟩ = some (.slice a1 n1 c1)) (k1 : X.cell? ⟨B, 1, none⟩ = some (.slice a2 n2 c2)) (k2 : X.cell? ⟨B, 2, none⟩ = some (.slice a3 n3 c3)) (h1 : LinesAt X a1 L1) (h2 : LinesAt X a2 L2) (h3 : LinesAt X a3 L3) (hs : sizeP L1 + sizeP L2 + sizeP L3 ≤ 100000) :
    Calls Try.prog 113 #[.slice (some ⟨B, 0, none⟩) 3 3] X fun e w' => ∃ a c, e = .returned (.slice a M.length c) ∧ LinesAt w' a M ∧ M.length ≤ c ∧ Below X.heap.size X w' := by
  rw [← hM.out]
  exact cat3x_any X L1 L2 L3 a1 a2 a3 n1 n2 n3 c1 c2 c3 B e1 e2 e3 k0 k1 k2 h1 h2 h3 hs
theorem equal_at (a b : Option Addr) (n ca cb : Nat) (A B : List ByteArray) (w : World) (hn : A.length = n) (hA : LinesAt w a A) (hB : LinesAt w b B) (hl : A.length ≤ 100000) {q : Bool} (hq : Hid (eqB A B = q)) : Calls Try.prog 112 #[.slice a n ca, .slice b B.length cb] w fun e w' => e = .returned (.bool q) ∧ Below w.heap.size w w' := by
  subst hn
  have := equal_any a b ca cb A B w hA hB hl
  rwa [hq.out] at this
theorem same_at (a b : Option Addr) (n ca cb : Nat) (A B : List ByteArray) (w : World) (hn : A.length = n) (hA : LinesAt w a A) (hB : LinesAt w b B) (hl : A.length ≤ 100000) {q : Bool} (hq : Hid (eqB A B = q)) : Calls Try.prog 114 #[.slice a n ca, .slice b B.length cb] w fun e w' => e = .returned (.bool q) ∧ Below w.heap.size w w' := by
  subst hn
  have := same19_any a b ca cb A B w hA hB hl
  rwa [hq.out] at this
set_option maxRecDepth 100000 in
set_option maxHeartbeats 4000000 in
theorem papply_any (a ao an : Option Addr) (cap co cn : Nat) (L O N : List ByteArray) (at_ : Int) (w : World) (hL : LinesAt w a L) (hc : L.length ≤ cap) (hO : LinesAt w ao O) (hN : LinesAt w an N) (hs : sizeP L + sizeP O + sizeP N ≤ 100000) (hw : -9223372036854775808 ≤ at_ ∧ at_ ≤ 9223372036854775807) :
    Calls Try.prog 74 #[.slice a L.length cap, .agg #[.int .i64 at_, .slice ao O.length co, .slice an N.length cn]] w fun e w' => (∃ v, e = .returned v ∧ AppV w' (applyP L (at_, O, N)) v) ∧ Below w.heap.size w w' := by
  have lL := len_sizeP L
  have lO := len_sizeP O
  have lN := len_sizeP N
  have hOb : O.length ≤ 100000 := by omega
  obtain ⟨hw1, hw2⟩ := hw
  rcases applyP_ways (L := L) (O := O) (N := N) (at_ := at_) with ⟨hy, h⟩ | ⟨k, rfl, h1, h2, h3, hy⟩
  · rw [hy]
    have hend : ∀ w', AppV w' none (.tuple #[.slice none 0 0, .bool false]) := fun _ => rfl
    clear hy
    rcases h with h | ⟨h0, h⟩ | ⟨h0, h1, h⟩ | ⟨h0, h1, h2, h⟩ | ⟨k, rfl, h1, h2, h3⟩
    · go_enter Try.func74, Try.ntmps74
      go_wp2
      go_ret2
      exact ⟨⟨_, rfl, hend _⟩, by (repeat (first | with_reducible exact Below.refl _ _ | (with_reducible refine Below.setCell ?_ ?_ _; rotate_left; · (first | exact Nat.le_refl _ | assumption | omega | (simp; done) | (simp; omega))) | (with_reducible refine Below.alloc ?_ ?_ _; rotate_left; · (first | exact Nat.le_refl _ | assumption | omega | (simp; done) | (simp; omega))) | with_reducible refine below_ovr_of ?_ | with_reducible refine drew_below ?_ _ | with_reducible refine Below.drew ?_ | with_reducible assumption))⟩
    · have hn : ¬ at_ < 0 := by omega
      go_enter Try.func74, Try.ntmps74
      go_wp2
      go_ret2
      exact ⟨⟨_, rfl, hend _⟩, by (repeat (first | with_reducible exact Below.refl _ _ | (with_reducible refine Below.setCell ?_ ?_ _; rotate_left; · (first | exact Nat.le_refl _ | assumption | omega | (simp; done) | (simp; omega))) | (with_reducible refine Below.alloc ?_ ?_ _; rotate_left; · (first | exact Nat.le_refl _ | assumption | omega | (simp; done) | (simp; omega))) | with_reducible refine below_ovr_of ?_ | with_reducible refine drew_below ?_ _ | with_reducible refine Below.drew ?_ | with_reducible assumption))⟩
    · have hn : ¬ at_ < 0 := by omega
      have hn1 : ¬ (L.length : Int) < at_ := by omega
      go_enter Try.func74, Try.ntmps74
      go_wp2
      go_ret2
      exact ⟨⟨_, rfl, hend _⟩, by (repeat (first | with_reducible exact Below.refl _ _ | (with_reducible refine Below.setCell ?_ ?_ _; rotate_left; · (first | exact Nat.le_refl _ | assumption | omega | (simp; done) | (simp; omega))) | (with_reducible refine Below.alloc ?_ ?_ _; rotate_left; · (first | exact Nat.le_refl _ | assumption | omega | (simp; done) | (simp; omega))) | with_reducible refine below_ovr_of ?_ | with_reducible refine drew_below ?_ _ | with_reducible refine Below.drew ?_ | with_reducible assumption))⟩
    · have hn : ¬ at_ < 0 := by omega
      have hn1 : ¬ (L.length : Int) < at_ := by omega
      have hn2 : ¬ (L.length : Int) - at_ < (O.length : Int) := by omega
      have h4 : ((L.length : Int) - (O.length : Int) + (N.length : Int) == 0) = true := by rw [beq_iff_eq]; exact h
      clear h
      go_enter Try.func74, Try.ntmps74
      go_wp2
      go_ret2
      exact ⟨⟨_, rfl, hend _⟩, by (repeat (first | with_reducible exact Below.refl _ _ | (with_reducible refine Below.setCell ?_ ?_ _; rotate_left; · (first | exact Nat.le_refl _ | assumption | omega | (simp; done) | (simp; omega))) | (with_reducible refine Below.alloc ?_ ?_ _; rotate_left; · (first | exact Nat.le_refl _ | assumption | omega | (simp; done) | (simp; omega))) | with_reducible refine below_ovr_of ?_ | with_reducible refine drew_below ?_ _ | with_reducible refine Below.drew ?_ | with_reducible assumption))⟩
    · have hkn : ¬ (L.length : Int) < (k : Int) := by omega
      have hk0 : (0 : Int) ≤ (k : Int) := by omega
      have hn2 : ¬ (L.length : Int) - (k : Int) < (O.length : Int) := by omega
      have h4 : ((L.length : Int) - (O.length : Int) + (N.length : Int) == 0) = false := by rw [beq_eq_false_iff_ne]; exact h2
      have hkc : (k : Int) + (O.length : Int) ≤ (cap : Int) := by omega
      have hk3 : (k : Int) ≤ (k : Int) + (O.length : Int) := by omega
      have hk4 : ((k : Int) + (O.length : Int)).toNat = k + O.length := by omega
      have hk5 : IntKind.i64.wrap ((k : Int) + (O.length : Int)) = (k : Int) + (O.length : Int) := IntWalk.i64_in _ (by omega)
      have hk6 : (0 : Int) ≤ (k : Int) + (O.length : Int) := by omega
      have hP := hL.piece h1 hc
      have hPl : ((L.drop k).take O.length).length = O.length := by simp; omega
      obtain ⟨A1, hA1⟩ : ∃ A1, (if cap = k then a else a.map (fun x => x.add k)) = A1 := ⟨_, rfl⟩
      rw [hA1] at hP
      have H3 := Lib.hid h3
      have HPL := Lib.hid hPl
      clear h2 h3 hPl
      go_enter Try.func74, Try.ntmps74
      go_wp2
      (refine wp_region_ovr (by kernel_rfl) (by kernel_rfl) ?_; (repeat (go_big_quiet_step ((go_at_call 112; exact quiet_ovr (equal_at _ _ _ _ _ _ O _ HPL.out (by (repeat (first | assumption | refine LinesAt.ovr ?_ _ | refine LinesAt.alloc ?_ _ | refine LinesAt.drewN ?_ _ | refine LinesAt.drew ?_))) (by (repeat (first | assumption | refine LinesAt.ovr ?_ _ | refine LinesAt.alloc ?_ _ | refine LinesAt.drewN ?_ _ | refine LinesAt.drew ?_))) (by rw [HPL.out]; exact hOb) H3))))); refine wpQuiet_nil ?_; rintro _ ⟨zq, rfl⟩)
      go_wp2
      go_ret2
      exact ⟨⟨_, rfl, hend _⟩, by (repeat (first | with_reducible exact Below.refl _ _ | (with_reducible refine Below.setCell ?_ ?_ _; rotate_left; · (first | exact Nat.le_refl _ | assumption | omega | (simp; done) | (simp; omega))) | (with_reducible refine Below.alloc ?_ ?_ _; rotate_left; · (first | exact Nat.le_refl _ | assumption | omega | (simp; done) | (simp; omega))) | with_reducible refine below_ovr_of ?_ | with_reducible refine drew_below ?_ _ | with_reducible refine Below.drew ?_ | with_reducible assumption))⟩
  · rw [hy]
    have hkn : ¬ (L.length : Int) < (k : Int) := by omega
    have hk0 : (0 : Int) ≤ (k : Int) := by omega
    have hn2 : ¬ (L.length : Int) - (k : Int) < (O.length : Int) := by omega
    have h4 : ((L.length : Int) - (O.length : Int) + (N.length : Int) == 0) = false := by rw [beq_eq_false_iff_ne]; exact h2
    have hkc : (k : Int) + (O.length : Int) ≤ (cap : Int) := by omega
    have hk3 : (k : Int) ≤ (k : Int) + (O.length : Int) := by omega
    have hk4 : ((k : Int) + (O.length : Int)).toNat = k + O.length := by omega
    have hk5 : IntKind.i64.wrap ((k : Int) + (O.length : Int)) = (k : Int) + (O.length : Int) := IntWalk.i64_in _ (by omega)
    have hk6 : (0 : Int) ≤ (k : Int) + (O.length : Int) := by omega
    have hP := hL.piece h1 hc
    have hPl : ((L.drop k).take O.length).length = O.length := by simp; omega
    obtain ⟨A1, hA1⟩ : ∃ A1, (if cap = k then a else a.map (fun x => x.add k)) = A1 := ⟨_, rfl⟩
    rw [hA1] at hP
    have H3 := Lib.hid h3
    have HPL := Lib.hid hPl
    have hP0 : LinesAt w a (L.take k) := ⟨fun i hi => by
      have hik : i < k ∧ i < L.length := by rw [List.length_take] at hi; omega
      obtain ⟨b, off, e, hb, hcell⟩ := hL.1 i hik.2
      exact ⟨b, off, e, hb, by rw [hcell, List.getD_eq_getElem?_getD, List.getD_eq_getElem?_getD, List.getElem?_take_of_lt hik.1]⟩, by have := hL.2.1; simp; omega, fun s hs => hL.2.2 s (List.mem_of_mem_take hs)⟩
    have hP2 := hL.piece (lo := k + O.length) (n := L.length - (k + O.length)) (by omega) hc
    have e2 : (L.drop (k + O.length)).take (L.length - (k + O.length)) = L.drop (k + O.length) := List.take_of_length_le (by simp)
    rw [e2] at hP2
    obtain ⟨A2, hA2⟩ : ∃ A2, (if cap = k + O.length then a else a.map (fun x => x.add (k + O.length))) = A2 := ⟨_, rfl⟩
    rw [hA2] at hP2
    have hl0 : (L.take k).length = k := by simp; omega
    have hl2 : (L.drop (k + O.length)).length = L.length - (k + O.length) := by simp
    have hsz := sizeP_cut L k O.length
    have hszb : sizeP (L.take k) + sizeP N + sizeP (L.drop (k + O.length)) ≤ 100000 := by omega
    obtain ⟨M, hM⟩ : ∃ M, L.take k ++ (N ++ L.drop (k + O.length)) = M := ⟨_, rfl⟩
    rw [hM]
    have HM := Lib.hid hM
    have HL0 := Lib.hid hl0
    have HL2 := Lib.hid hl2
    clear h2 h3 hPl hy e2 hM hl0 hl2 hsz
    go_enter Try.func74, Try.ntmps74
    go_wp2
    (refine wp_region_ovr (by kernel_rfl) (by kernel_rfl) ?_; (repeat (go_big_quiet_step ((go_at_call 112; exact quiet_ovr (equal_at _ _ _ _ _ _ O _ HPL.out (by (repeat (first | assumption | refine LinesAt.ovr ?_ _ | refine LinesAt.alloc ?_ _ | refine LinesAt.drewN ?_ _ | refine LinesAt.drew ?_))) (by (repeat (first | assumption | refine LinesAt.ovr ?_ _ | refine LinesAt.alloc ?_ _ | refine LinesAt.drewN ?_ _ | refine LinesAt.drew ?_))) (by rw [HPL.out]; exact hOb) H3))))); refine wpQuiet_nil ?_; rintro _ ⟨zq, rfl⟩)
    go_wp2
    refine name_world ?_
    intro W5 hW5
    have q0 : W5.cell? ⟨w.heap.size, 0, none⟩ = some (.int .i64 (k : Int)) := by rw [hW5]; simp [go_sem]
    have q1 : W5.cell? ⟨w.heap.size, 1, none⟩ = some (.slice ao O.length co) := by rw [hW5]; simp [go_sem]
    have q2 : W5.cell? ⟨w.heap.size, 2, none⟩ = some (.slice an N.length cn) := by rw [hW5]; simp [go_sem]
    have lw : w.heap.size < W5.heap.size := by rw [hW5]; simp; omega
    have hkcap : (k : Int) ≤ (cap : Int) := by clear hk5; omega
    have hkl : (k : Int) + (O.length : Int) ≤ (L.length : Int) := by clear hk5; omega
    have hbel : Below w.heap.size w W5 := by rw [hW5]; (repeat (first | with_reducible exact Below.refl _ _ | (with_reducible refine Below.setCell ?_ ?_ _; rotate_left; · (first | exact Nat.le_refl _ | assumption | omega | (simp; done) | (simp; omega))) | (with_reducible refine Below.alloc ?_ ?_ _; rotate_left; · (first | exact Nat.le_refl _ | assumption | omega | (simp; done) | (simp; omega))) | with_reducible refine below_ovr_of ?_ | with_reducible refine drew_below ?_ _ | with_reducible refine Below.drew ?_ | with_reducible assumption))
    have gN : LinesAt W5 an N := by rw [hW5]; (repeat (first | assumption | refine LinesAt.ovr ?_ _ | refine LinesAt.alloc ?_ _ | refine LinesAt.drewN ?_ _ | refine LinesAt.drew ?_))
    have g0 : LinesAt W5 a (L.take k) := by rw [hW5]; (repeat (first | assumption | refine LinesAt.ovr ?_ _ | refine LinesAt.alloc ?_ _ | refine LinesAt.drewN ?_ _ | refine LinesAt.drew ?_))
    have g2 : LinesAt W5 A2 (L.drop (k + O.length)) := by rw [hW5]; (repeat (first | assumption | refine LinesAt.ovr ?_ _ | refine LinesAt.alloc ?_ _ | refine LinesAt.drewN ?_ _ | refine LinesAt.drew ?_))
    clear hW5 hL hO hN hP hP0 hP2 hA1 hs lL lO lN hOb
    go_region_held3 (fun w' => w.heap.size < w'.heap.size ∧ w'.cell? ⟨w.heap.size, 0, none⟩ = some (.int .i64 (k : Int)) ∧ w'.cell? ⟨w.heap.size, 1, none⟩ = some (.slice ao O.length co) ∧ w'.cell? ⟨w.heap.size, 2, none⟩ = some (.slice an N.length cn)) (((repeat' apply And.intro) <;> first | assumption | (simp [go_sem]; done) | (simp [go_sem, q0, q1, q2, lw]; done))) ((go_at_call 113; refine (cat3x_at _ (L.take k) N (L.drop (k + O.length)) M HM a an A2 k N.length (L.length - (k + O.length)) cap cn (cap - (k + O.length)) W5.heap.size HL0.out rfl HL2.out (by simp [go_sem]) (by simp [go_sem]) (by simp [go_sem]) (by (repeat (first | assumption | refine LinesAt.ovr ?_ _ | refine LinesAt.alloc ?_ _ | refine LinesAt.drewN ?_ _ | refine LinesAt.drew ?_))) (by (repeat (first | assumption | refine LinesAt.ovr ?_ _ | refine LinesAt.alloc ?_ _ | refine LinesAt.drewN ?_ _ | refine LinesAt.drew ?_))) (by (repeat (first | assumption | refine LinesAt.ovr ?_ _ | refine LinesAt.alloc ?_ _ | refine LinesAt.drewN ?_ _ | refine LinesAt.drew ?_))) hszb).mono ?_; rintro e1 w1 ⟨ra, rc, rfl, hR, hRc, hbl⟩; obtain ⟨y1, rfl⟩ := ovr_of_below hbl; clear hbl))
    all_goals (
      go_wp2
      go_ret2
      refine ⟨⟨_, rfl, ⟨_, _, rfl, ?_, hRc⟩⟩, by (repeat (first | with_reducible exact Below.refl _ _ | (with_reducible refine Below.setCell ?_ ?_ _; rotate_left; · (first | exact Nat.le_refl _ | assumption | omega | (simp; done) | (simp; omega))) | (with_reducible refine Below.alloc ?_ ?_ _; rotate_left; · (first | exact Nat.le_refl _ | assumption | omega | (simp; done) | (simp; omega))) | with_reducible refine below_ovr_of ?_ | with_reducible refine drew_below ?_ _ | with_reducible refine Below.drew ?_ | with_reducible assumption))⟩
      first | exact hR | ((repeat (first | assumption | refine LinesAt.ovr ?_ _ | refine LinesAt.alloc ?_ _ | refine LinesAt.drewN ?_ _ | refine LinesAt.drew ?_))))
end Go.Proofs.Ytnaceobbbfbhhaa
