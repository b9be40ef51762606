/- The contracts of the bracket that belongs to one, whole. Conditions: none beyond what each says. -/
import Derived.Test.YtlbbgocggifjaaaPair5
import Derived.Test.YtlbbgocggifjaaaPair9
namespace Go.Proofs.Ytlbbgocggifjaaa
open Go.RowKit

theorem kind_spec {c o s : Int} {op : Bool} (h : kindP c = (o, s, op, true)) : o ≠ s ∧ (op = true → c = o) ∧ (op = false → c = s) := by
  unfold kindP at h
  by_cases h1 : c = 40 ∨ c = 41
  · rw [if_pos h1] at h
    simp only [Prod.mk.injEq] at h
    obtain ⟨rfl, rfl, rfl, _⟩ := h
    refine ⟨by decide, fun e => by simpa using e, fun e => ?_⟩
    have e' : ¬ c = 40 := by simpa using e
    omega
  · rw [if_neg h1] at h
    by_cases h2 : c = 91 ∨ c = 93
    · rw [if_pos h2] at h
      simp only [Prod.mk.injEq] at h
      obtain ⟨rfl, rfl, rfl, _⟩ := h
      refine ⟨by decide, fun e => by simpa using e, fun e => ?_⟩
      have e' : ¬ c = 91 := by simpa using e
      omega
    · rw [if_neg h2] at h
      by_cases h3 : c = 123 ∨ c = 125
      · rw [if_pos h3] at h
        simp only [Prod.mk.injEq] at h
        obtain ⟨rfl, rfl, rfl, _⟩ := h
        refine ⟨by decide, fun e => by simpa using e, fun e => ?_⟩
        have e' : ¬ c = 123 := by simpa using e
        omega
      · rw [if_neg h3] at h; simp at h
theorem otherP_open {B : List UInt8} {i : Nat} {o s : Int} (h : kindP (btI B i) = (o, s, true, true)) : otherP B i = scanF B o s 1 (i + 1) := by rw [otherP, h]; rfl
theorem otherP_shut {B : List UInt8} {i : Nat} {o s : Int} (h : kindP (btI B i) = (o, s, false, true)) : otherP B i = scanB B o s 1 i := by rw [otherP, h]; rfl

theorem other_any (a : Option Addr) (cap : Nat) (L : List ByteArray) (l c : Nat) (w : World) (hL : LinesAt w a L) (hl : l < L.length) (hc : c < (L.getD l .empty).size) (htot : total L ≤ 1000000)
    (hk : (kindP (btI (flat L) (idx L l c))).2.2.2 = true) :
    Calls Try.prog 110 #[.slice a L.length cap, .agg #[.int .i64 l, .int .i64 c]] w fun e w' => e = .returned (plcV (optP L (otherP (flat L) (idx L l c)))) ∧ Below w.heap.size w w' := by
  obtain ⟨⟨o, s, op, is⟩, hkk⟩ : ∃ r, kindP (btI (flat L) (idx L l c)) = r := ⟨_, rfl⟩
  rw [hkk] at hk
  have hk' : is = true := hk
  subst hk'
  obtain ⟨hos, h1, h2⟩ := kind_spec hkk
  cases op with
  | true =>
    rw [otherP_open hkk]
    first
      | exact other_open a cap L l c w hL hl hc htot o s (Lib.hid hkk) hos
      | exact other_open a cap L l c w hL hl hc htot o s (Lib.hid hkk) hos (h1 rfl)
  | false =>
    rw [otherP_shut hkk]
    first
      | exact other_shut a cap L l c w hL hl hc htot o s (Lib.hid hkk) hos
      | exact other_shut a cap L l c w hL hl hc htot o s (Lib.hid hkk) hos (h2 rfl)
theorem rother_any (a : Option Addr) (cap : Nat) (L : List ByteArray) (l c : Nat) (w : World) (hL : LinesAt w a L) (hl : l < L.length) (hc : c < (L.getD l .empty).size) (htot : total L ≤ 1000000)
    (hk : (kindP (btI (flat L) (idx L l c))).2.2.2 = true) :
    Calls Try.prog 113 #[.slice a L.length cap, .agg #[.int .i64 l, .int .i64 c]] w fun e w' => e = .returned (plcV (optP L (otherP (flat L) (idx L l c)))) ∧ Below w.heap.size w w' := by
  obtain ⟨⟨o, s, op, is⟩, hkk⟩ : ∃ r, kindP (btI (flat L) (idx L l c)) = r := ⟨_, rfl⟩
  rw [hkk] at hk
  have hk' : is = true := hk
  subst hk'
  obtain ⟨hos, h1, h2⟩ := kind_spec hkk
  cases op with
  | true =>
    rw [otherP_open hkk]
    first
      | exact rother_open a cap L l c w hL hl hc htot o s (Lib.hid hkk) hos
      | exact rother_open a cap L l c w hL hl hc htot o s (Lib.hid hkk) hos (h1 rfl)
  | false =>
    rw [otherP_shut hkk]
    first
      | exact rother_shut a cap L l c w hL hl hc htot o s (Lib.hid hkk) hos
      | exact rother_shut a cap L l c w hL hl hc htot o s (Lib.hid hkk) hos (h2 rfl)
end Go.Proofs.Ytlbbgocggifjaaa
