/- The contract of span.Cells: an iterator. Conditions: none beyond what each says. -/
import Derived.Test.YtlbbgocggifjaaaOI7
import Derived.Test.YtlbbgocggifjaaaOI22
import Derived.Test.YtlbbgocggifjaaaOI15
import Derived.Test.YtlbbgocggifjaaaOI3
namespace Go.Proofs.Ytlbbgocggifjaaa

/-- The places of a line's bytes, from column x on. -/
def rowC (s : ByteArray) (y x : Nat) : List (Nat × Nat) := if x < s.size then (y, x) :: rowC s y (x + 1) else []
termination_by s.size - x
theorem rowC_on {s : ByteArray} {y x : Nat} (h : x < s.size) : rowC s y x = (y, x) :: rowC s y (x + 1) := by rw [rowC.eq_def, if_pos h]
theorem rowC_end {s : ByteArray} {y x : Nat} (h : s.size ≤ x) : rowC s y x = [] := by rw [rowC.eq_def, if_neg (by omega)]
theorem rowC_len {s : ByteArray} {y : Nat} : ∀ (n x : Nat), s.size - x = n → (rowC s y x).length = s.size - x
  | 0, x, h => by rw [rowC_end (by omega)]; simp; omega
  | n + 1, x, h => by rw [rowC_on (by omega), List.length_cons, rowC_len n (x + 1) (by omega)]; omega
theorem rowC_in {s : ByteArray} {y : Nat} : ∀ (n x : Nat), s.size - x = n → ∀ p ∈ rowC s y x, p.1 = y ∧ x ≤ p.2 ∧ p.2 < s.size
  | 0, x, h, p, hp => by rw [rowC_end (by omega)] at hp; simp at hp
  | n + 1, x, h, p, hp => by
    rw [rowC_on (by omega)] at hp
    rcases List.mem_cons.1 hp with rfl | hp
    · exact ⟨rfl, Nat.le_refl _, by simp only; omega⟩
    · have := rowC_in n (x + 1) (by omega) p hp
      omega
/-- The places of a text's bytes, from line y on. -/
def cellF (L : List ByteArray) (y : Nat) : List (Nat × Nat) := if y < L.length then rowC (L.getD y .empty) y 0 ++ cellF L (y + 1) else []
termination_by L.length - y
theorem cellF_on {L : List ByteArray} {y : Nat} {s : ByteArray} (h : y < L.length) (hs : L.getD y .empty = s) : cellF L y = rowC s y 0 ++ cellF L (y + 1) := by rw [cellF.eq_def, if_pos h, hs]
theorem cellF_end {L : List ByteArray} {y : Nat} (h : L.length ≤ y) : cellF L y = [] := by rw [cellF.eq_def, if_neg (by omega)]
theorem cellF_len {L : List ByteArray} : ∀ (n y : Nat), L.length - y = n → (cellF L y).length = total (L.drop y)
  | 0, y, h => by rw [cellF_end (by omega), List.drop_eq_nil_of_le (by omega)]; rfl
  | n + 1, y, h => by
    rw [cellF_on (by omega) rfl, List.length_append, rowC_len _ 0 rfl, cellF_len n (y + 1) (by omega), total_drop L y (by omega)]
    omega
def cellP (L : List ByteArray) : List (Nat × Nat) := cellF L 0
theorem cellP_len (L : List ByteArray) : (cellP L).length = total L := by rw [cellP, cellF_len _ 0 rfl, List.drop_zero]
/-- The byte at a place. -/
def bytA (L : List ByteArray) (p : Nat × Nat) : Int := byt (L.getD p.1 .empty) p.2
end Go.Proofs.Ytlbbgocggifjaaa
namespace Go.Proofs.Ytlbbgocggifjaaa
open Go.RowKit Go.Shelf

attribute [local go_sem] Oper.semAt_some
/-- A byte's place in a text. -/
abbrev Cel (m : Nat) := { p : Nat × Nat // p.1 ≤ m ∧ p.2 ≤ m }
/-- What the iterator tells of a byte. -/
abbrev celV (L : List ByteArray) {m : Nat} (x : Cel m) : Array Value := #[.agg #[.int .i64 (x.1.1 : Int), .int .i64 (x.1.2 : Int)], .int .u8 (bytA L x.1)]
set_option maxRecDepth 100000 in
set_option maxHeartbeats 8000000 in
theorem cells1_in (n : Nat) (hn : 1 ≤ n) (l Bl m : Nat) (a : Option Addr) (cap : Nat) (L : List ByteArray) (Kp : World → World → Prop) (N : Nat)
    (hsz : L.length + total L ≤ 100000) (hm : L.length + total L ≤ m) (hN : L.length + total L ≤ N)
    (hK1 : ∀ X Y, Kp X Y → X.cell? ⟨Bl, 0, none⟩ = some (.slice a L.length cap) → LinesAt X a L → Y.cell? ⟨Bl, 0, none⟩ = some (.slice a L.length cap) ∧ LinesAt Y a L)
    (J Jx : List (Cel m) → World → Prop)
    (hY : ∀ (pre : List (Cel m)) (x : Cel m) (X : World), J pre X → pre.length < N → YieldAt Fence.wide (n - 1) Try.prog l (celV L x) X fun e X' =>
      (e = .returned (.bool true) ∧ J (pre ++ [x]) X' ∧ Kp X X') ∨ (e = .returned (.bool false) ∧ Jx (pre ++ [x]) X'))
    (W : World) (hBl : W.cell? ⟨Bl, 0, none⟩ = some (.slice a L.length cap)) (hL : LinesAt W a L) (h0 : J [] W) :
    CallsIn Fence.wide n Try.prog 96 #[.func (.yield l) #[] #[], .pointer (some ⟨Bl, 0, none⟩)] W fun e W' => (∃ v, e = .returned v) ∧
      ((∃ ys, ys.map Subtype.val = cellP L ∧ J ys W') ∨ (∃ pre, pre.map Subtype.val <+: cellP L ∧ Jx pre W')) := by
  have hLn := hL.2.1
  have hRl := cellP_len L
  obtain ⟨R, hR⟩ : ∃ R, cellP L = R := ⟨_, rfl⟩
  rw [hR] at hRl ⊢
  have HRL := Lib.hid hRl
  clear hRl
  have HR := Lib.hid hR
  have HK1 := Lib.hid hK1
  have HY := Lib.hid hY
  clear hR hK1 hY
  refine callsIn_of_wp Try.func96 rfl trivial ?_ rfl
  simp only [Try.ntmps96, List.size_toArray, List.length_cons, List.length_nil, Nat.reduceAdd, Nat.reduceSub, Array.replicate_succ, Array.replicate_zero, List.push_toArray, List.append_toArray, List.nil_append, List.cons_append]
  gi_wp2
  gi_loopw [8] (fun i wr => ∃ (k : Nat) (pre : List (Cel m)), k ≤ L.length ∧ i = .int .i64 k ∧ Hid (pre.map Subtype.val ++ cellF L k = R) ∧ J pre wr ∧ wr.cell? ⟨Bl, 0, none⟩ = some (.slice a L.length cap) ∧ LinesAt wr a L)
    (fun i _ => L.length - (intOf i).toNat)
  case atStart => exact ⟨0, [], Nat.zero_le _, rfl, Lib.hid (by simpa [cellP] using HR.out), h0, hBl, hL⟩
  case round =>
    obtain ⟨k, pre, hk, rfl, HK, hJ, hc, hLV⟩ := hrel
    by_cases hlt : k < L.length
    · have hltI : (k : Int) < (L.length : Int) := by omega
      have hk0 : (0 : Int) ≤ (k : Int) := by omega
      obtain ⟨b, off, s, rfl, hb, hcell, hs, HS⟩ := line_facts' hLV hlt
      have hst := size_le_total L k hlt
      have HK0 : Hid (pre.map Subtype.val ++ rowC s k 0 ++ cellF L (k + 1) = R) := Lib.hid (by rw [← HK.out, cellF_on hlt HS.out, List.append_assoc])
      have hszm : s.size ≤ m := by rw [HS.out] at hst; omega
      have hsz5 : s.size ≤ 100000 := by rw [HS.out] at hst; omega
      clear HK hs hst
      gi_wp2
      gi_loopw [15] (fun i wr' => ∃ (j : Nat) (pre' : List (Cel m)), j ≤ s.size ∧ i = .int .i64 j ∧ Hid (pre'.map Subtype.val ++ rowC s k j ++ cellF L (k + 1) = R) ∧ J pre' wr' ∧ wr'.cell? ⟨Bl, 0, none⟩ = some (.slice (some ⟨b, off, none⟩) L.length cap) ∧ LinesAt wr' (some ⟨b, off, none⟩) L)
        (fun i _ => s.size - (intOf i).toNat)
      case atStart => exact ⟨0, pre, Nat.zero_le _, rfl, HK0, hJ, hc, hLV⟩
      case round =>
        obtain ⟨j, pre', hj, rfl, HJ, hJ', hc', hL'⟩ := hrel
        by_cases hjl : j < s.size
        · have hjI : (j : Int) < (s.size : Int) := by omega
          have hj0 : (0 : Int) ≤ (j : Int) := by omega
          have HJ2 : Hid ((pre' ++ [(⟨(k, j), by simp only; omega, by simp only; omega⟩ : Cel m)]).map Subtype.val ++ rowC s k (j + 1) ++ cellF L (k + 1) = R) := Lib.hid (by rw [← HJ.out, rowC_on hjl]; simp)
          have hpl : pre'.length < N := by have q1 := congrArg List.length HJ2.out; have q2 := HRL.out; simp at q1; omega
          have HYY := Lib.hid (HY.out pre' ⟨(k, j), by simp only; omega, by simp only; omega⟩ wr hJ' hpl)
          have hby : bytA L (k, j) = (s[j].toNat : Int) := by rw [bytA, HS.out]; exact byt_at' s j hjl
          clear HJ hpl
          obtain ⟨fn, tmps, assign, body, hy, hYR⟩ := HYY.out
          dsimp only [celV] at hy
          rw [hby] at hy
          (try rw [show ((0 : Nat) : Int) = 0 from rfl] at hy)
          gi_wp2
          refine hYR.mono ?_
          rintro e W3 (⟨rfl, hJ3, hk3⟩ | ⟨rfl, hJx3⟩)
          · obtain ⟨hc3, hL3⟩ := HK1.out _ _ hk3 hc' hL'
            gi_wp2
            go_roundw
            case rel => exact ⟨j + 1, _, by omega, by go_num, HJ2, hJ3, hc3, hL3⟩
            case measure => simp [intOf]; omega
          · gi_wp2
            refine bodyPost_ret (results_none rfl _ _ _) rfl ?_
            exact ⟨⟨_, rfl⟩, .inr ⟨_, ⟨_, by rw [← HJ2.out, List.append_assoc]⟩, hJx3⟩⟩
        · have hjI : ¬ (j : Int) < (s.size : Int) := by omega
          have HK2 : Hid (pre'.map Subtype.val ++ cellF L (k + 1) = R) := Lib.hid (by rw [← HJ.out, rowC_end (by omega)]; simp)
          gi_wp2
          go_roundw
          case rel => exact ⟨k + 1, pre', by omega, by go_num, HK2, hJ', hc', hL'⟩
          case measure => simp [intOf]; omega
    · have HE : Hid (pre.map Subtype.val = R) := Lib.hid (by have := HK.out; rwa [cellF_end (by omega), List.append_nil] at this)
      gi_wp2
      go_end0
      exact ⟨⟨_, rfl⟩, .inl ⟨pre, HE.out, hJ⟩⟩
theorem pcells_any (a : Option Addr) (cap : Nat) (L : List ByteArray) (w : World) : Calls Try.prog 23 #[.slice a L.length cap] w fun e w' =>
    e = .returned (.func (.func 96) #[] #[.pointer (some ⟨w.heap.size, 0, none⟩)]) ∧ w.alloc (.cells #[.slice a L.length cap] 22) = w' := by
  go_enter Try.func23, Try.ntmps23
  go_wp2
  go_ret
  exact ⟨rfl, rfl⟩
theorem cells_stopsK (Kp : World → World → Prop) (Bl m : Nat) (a : Option Addr) (cap : Nat) (L : List ByteArray) (W : World) (hsz : L.length + total L ≤ 100000) (hm : L.length + total L ≤ m) (hBl : W.cell? ⟨Bl, 0, none⟩ = some (.slice a L.length cap)) (hL : LinesAt W a L)
    (hK1 : ∀ X Y, Kp X Y → X.cell? ⟨Bl, 0, none⟩ = some (.slice a L.length cap) → LinesAt X a L → Y.cell? ⟨Bl, 0, none⟩ = some (.slice a L.length cap) ∧ LinesAt Y a L) :
    SeqStopsK Fence.wide 8 Try.prog 96 #[.pointer (some ⟨Bl, 0, none⟩)] (fun x : Cel m => celV L x) Kp
      (fun ys => ys.map Subtype.val = cellP L) (fun pre => pre.map Subtype.val <+: cellP L) 100000 W := fun l J Jx X hX _ _ hY h0 =>
  cells1_in 8 (by omega) l Bl m a cap L Kp 100000 hsz hm hsz hK1 J Jx (fun pre x A h hl => hY pre x A h hl) X
    ((hX.cell (p := ⟨Bl, 0, none⟩) (World.block_lt_of_cell? _ _ hBl)).trans hBl) (hL.below hX (Nat.le_refl _)) h0
end Go.Proofs.Ytlbbgocggifjaaa
