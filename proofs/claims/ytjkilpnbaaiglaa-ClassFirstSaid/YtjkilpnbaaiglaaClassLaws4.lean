/- The walk of the law ClassFirst. Conditions: none beyond what each says. -/
import Derived.Test.YtjkilpnbaaiglaaKnown5
import Derived.Test.YtjkilpnbaaiglaaPos
namespace Go.Proofs.Ytjkilpnbaaiglaa
open Go.RowKit

theorem takeWhile_sat {p : UInt8 → Bool} : ∀ {l : List UInt8} {y : UInt8}, y ∈ l.takeWhile p → p y = true
  | [], y, h => by simp at h
  | x :: l, y, h => by
    rw [List.takeWhile_cons] at h
    cases hx : p x with
    | false => simp [hx] at h
    | true =>
      simp only [hx, if_true, List.mem_cons] at h
      rcases h with rfl | h
      · exact hx
      · exact takeWhile_sat h
/-- What the law's last statement asks of a line t. -/
theorem first_facts {t : ByteArray} (h : 0 < t.size) : ∃ k : Nat, firstL t.data.toList = k ∧ k < t.size ∧ (∀ (j : Nat) (y : UInt8), j < k → t.data.toList[j]? = some y → blankB y = true) ∧
    (∀ (y : UInt8), t.data.toList[k]? = some y → blankB y = false ∨ k + 1 = t.size) := by
  have hl := list_len t
  generalize t.data.toList = l at hl
  have htw := List.takeWhile_prefix (l := l) (p := blankB)
  have hle : (l.takeWhile blankB).length ≤ l.length := htw.length_le
  have hall : ∀ (j : Nat) (y : UInt8), j < (l.takeWhile blankB).length → l[j]? = some y → blankB y = true := by
    intro j y hj hy
    obtain ⟨r, hr⟩ := htw
    have h1 : (l.takeWhile blankB)[j]? = some y := by
      have h2 : (l.takeWhile blankB ++ r)[j]? = some y := by rw [hr]; exact hy
      rwa [List.getElem?_append_left hj] at h2
    exact takeWhile_sat (List.mem_of_getElem? h1)
  by_cases hlt : (l.takeWhile blankB).length < l.length
  · refine ⟨(l.takeWhile blankB).length, by simp [firstL, hlt], by omega, hall, fun y hy => ?_⟩
    left
    have hd : l.dropWhile blankB ≠ [] := by
      intro e
      have := List.takeWhile_append_dropWhile (l := l) (p := blankB)
      rw [e, List.append_nil] at this
      rw [this] at hlt
      omega
    have h2 : (l.takeWhile blankB ++ l.dropWhile blankB)[(l.takeWhile blankB).length]? = some y := by rw [List.takeWhile_append_dropWhile]; exact hy
    rw [List.getElem?_append_right (Nat.le_refl _), Nat.sub_self] at h2
    have h3 := List.head?_dropWhile_not blankB l
    rw [List.head?_eq_getElem?, h2] at h3
    simpa using h3
  · refine ⟨l.length - 1, by simp [firstL, hlt], by omega, fun j y hj hy => hall j y (by omega) hy, fun y hy => .inr (by omega)⟩

theorem ofC_false_blank (b : UInt8) (h : blankB b = true) : ofC (b.toNat : Int) false = 0 := by
  have := (ofC_blank b).2 h
  unfold ofC at *
  split
  · rfl
  · rename_i hn; rw [if_neg hn] at this; simp at this
theorem ofC_true_solid (b : UInt8) (h : blankB b = false) : ofC (b.toNat : Int) true = 1 := by
  have : ¬ ofC (b.toNat : Int) true = 0 := by rw [ofC_blank]; simp [h]
  unfold ofC at *
  split
  · rename_i hn; rw [if_pos hn] at this; simp at this
  · simp

theorem cut01 (t : ByteArray) : (({ data := #[32, 9] } : ByteArray).extract 0 1 ++ t).size = t.size + 1 := by
  have : (({ data := #[32, 9] } : ByteArray).extract 0 1).size = 1 := by decide
  rw [ByteArray.size_append]; omega
theorem cut12 (t : ByteArray) : (({ data := #[32, 9] } : ByteArray).extract 1 2 ++ t).size = t.size + 1 := by
  have : (({ data := #[32, 9] } : ByteArray).extract 1 2).size = 1 := by decide
  rw [ByteArray.size_append]; omega

set_option maxHeartbeats 1000000 in
theorem classFirst_walk (x : Int) (s : ByteArray) (W : World) (hx : 0 ≤ x ∧ x ≤ 255) (hs : s.size ≤ 140737488351232) :
    Calls Try.prog 6 #[.int .u8 x, .string s] W fun e W' => e = .returned (.bool true) ∧ Below W.heap.size W W' := by
  obtain ⟨hx0, hx1⟩ := hx
  by_cases h2 : s.size ≤ 200
  · have h2' : (s.size : Int) ≤ 200 := by omega
    go_enter Try.func6, Try.ntmps6
    go_wp2_with (go_at_call 15; refine (known5_any _).mono ?_; rintro e w1 ⟨rfl, hbl⟩; obtain ⟨z, rfl⟩ := ovr_of_below hbl; clear hbl)
    go_loop [5, 6] (fun t i => ∃ (k : Nat) (t' : ByteArray), k ≤ 9 ∧ i = .int .i64 k ∧ t = .string t' ∧ t'.size ≤ 200 + k) (fun _ i => 9 - (intOf i).toNat)
    case atStart => exact ⟨0, s, by omega, rfl, rfl, by omega⟩
    case round =>
      obtain ⟨k, t, hk, rfl, rfl, ht⟩ := hrel
      by_cases hlt : (k : Int) < x % 9
      · have hm : (k : Int) % 2 = 0 ∨ (k : Int) % 2 = 1 := by omega
        rcases hm with hm | hm
        · go_wp2
          go_round
          case rel => exact ⟨k + 1, _, by omega, by go_num, rfl, by rw [cut01]; omega⟩
          case measure => simp [intOf]; omega
        · go_wp2
          go_round
          case rel => exact ⟨k + 1, _, by omega, by go_num, rfl, by rw [cut12]; omega⟩
          case measure => simp [intOf]; omega
      · by_cases he : t.size = 0
        · have h1 : t.toList = [] := by rw [Go.ByteArray.toList_eq]; exact List.eq_nil_of_length_eq_zero (by rw [list_len]; exact he)
          have h2 : t.toList.isEmpty = true := by rw [h1]; rfl
          have h3 : firstL t.data.toList = 0 := by
            have e : t.data.toList = [] := List.eq_nil_of_length_eq_zero (by rw [list_len]; exact he)
            rw [e]; rfl
          have H1 := Lib.hid h1
          clear h1
          go_wp2_with (go_at_call 18; refine (first_any _ _ (by omega)).mono ?_; rintro e w1 ⟨rfl, rfl⟩)
          go_ret
          exact ⟨rfl, by (repeat (first | exact Below.refl _ _ | refine Below.alloc ?_ (by first | exact Nat.le_refl _ | (simp [size_ovr]; done) | (simp [size_ovr]; omega)) _ | refine below_ovr_of ?_ | refine drew_below ?_ _ | refine Below.drew ?_ | refine Below.setCell ?_ (by first | exact Nat.le_refl _ | (simp [size_ovr]; done) | (simp [size_ovr]; omega)) _ | assumption))⟩
        · have h2 : t.toList.isEmpty = false := by
            rw [Go.ByteArray.toList_eq]
            cases e : t.data.toList with
            | nil => have := list_len t; rw [e] at this; simp at this; omega
            | cons _ _ => rfl
          have h2n : t.toList ≠ [] := by intro e; rw [e] at h2; simp at h2
          obtain ⟨f, hf, hfl, hfb, hfe⟩ := first_facts (t := t) (by omega)
          have HFB := Lib.hid hfb
          have HFE := Lib.hid hfe
          clear hfb hfe
          go_wp2_with (go_at_call 18; refine (first_any _ _ (by omega)).mono ?_; rintro e w1 ⟨rfl, rfl⟩)
          go_loop [8] (fun i => ∃ j : Nat, j ≤ f ∧ i = .int .i64 j) (fun i => f - (intOf i).toNat)
          case atStart => exact ⟨0, by omega, rfl⟩
          case round =>
            obtain ⟨j, hj, rfl⟩ := hrel
            by_cases hjf : j < f
            · have hjt : j < t.size := by omega
              have hof := ofC_false_blank t[j] (HFB.out j t[j] hjf (list_at t j hjt))
              go_wp2_with (go_at_call 16; refine (of_any _ _ _).mono ?_; rintro e w1 ⟨rfl, rfl⟩)
              go_round
              case rel => exact ⟨j + 1, by omega, by go_num⟩
              case measure => simp [intOf]; omega
            · have hfI : (f : Int) < (t.size : Int) := by omega
              rcases HFE.out t[f] (list_at t f hfl) with hb | hb
              · have hof := ofC_true_solid t[f] hb
                go_wp2_with (go_at_call 16; refine (of_any _ _ _).mono ?_; rintro e w1 ⟨rfl, rfl⟩)
                go_ret
                exact ⟨rfl, by (repeat (first | exact Below.refl _ _ | refine Below.alloc ?_ (by first | exact Nat.le_refl _ | (simp [size_ovr]; done) | (simp [size_ovr]; omega)) _ | refine below_ovr_of ?_ | refine drew_below ?_ _ | refine Below.drew ?_ | refine Below.setCell ?_ (by first | exact Nat.le_refl _ | (simp [size_ovr]; done) | (simp [size_ovr]; omega)) _ | assumption))⟩
              · have hq : ((f : Int) == (t.size : Int) - 1) = true := by rw [beq_iff_eq]; omega
                go_wp2_with (go_at_call 16; refine (of_any _ _ _).mono ?_; rintro e w1 ⟨rfl, rfl⟩)
                all_goals (go_ret; exact ⟨rfl, by (repeat (first | exact Below.refl _ _ | refine Below.alloc ?_ (by first | exact Nat.le_refl _ | (simp [size_ovr]; done) | (simp [size_ovr]; omega)) _ | refine below_ovr_of ?_ | refine drew_below ?_ _ | refine Below.drew ?_ | refine Below.setCell ?_ (by first | exact Nat.le_refl _ | (simp [size_ovr]; done) | (simp [size_ovr]; omega)) _ | assumption))⟩)
  · have h2' : (200 : Int) < (s.size : Int) := by omega
    go_enter Try.func6, Try.ntmps6
    go_wp2_with (go_at_call 15; refine (known5_any _).mono ?_; rintro e w1 ⟨rfl, hbl⟩; obtain ⟨z, rfl⟩ := ovr_of_below hbl; clear hbl)
    go_ret
    exact ⟨rfl, by (repeat (first | exact Below.refl _ _ | refine Below.alloc ?_ (by first | exact Nat.le_refl _ | (simp [size_ovr]; done) | (simp [size_ovr]; omega)) _ | refine below_ovr_of ?_ | refine drew_below ?_ _ | refine Below.drew ?_ | refine Below.setCell ?_ (by first | exact Nat.le_refl _ | (simp [size_ovr]; done) | (simp [size_ovr]; omega)) _ | assumption))⟩
end Go.Proofs.Ytjkilpnbaaiglaa
