/- The contract of para.Sentences, as a range wants it. Conditions: none beyond what each says. -/
import Derived.Test.YtnaceobbbfbhhaaHeard2
namespace Go.Proofs.Ytnaceobbbfbhhaa
open Go.RowKit Go.Shelf

theorem psent_any (a : Option Addr) (cap : Nat) (L : List ByteArray) (w : World) : Calls Try.prog 56 #[.slice a L.length cap] w fun e w' =>
    e = .returned (.func (.func 98) #[] #[.pointer (some ⟨w.heap.size, 0, none⟩)]) ∧ w.alloc (.cells #[.slice a L.length cap] 22) = w' := by
  go_enter Try.func56, Try.ntmps56
  go_wp2
  go_ret
  exact ⟨rfl, rfl⟩
theorem lines_typ {X Y : World} {t : TypeId} {n : Nat} {E : List Nat} {a : Option Addr} {L : List ByteArray} (h : Typ t n E X Y) (hL : LinesAt X a L) (hE : ∀ b off, a = some ⟨b, off, none⟩ → b < n ∧ b ∉ E) : LinesAt Y a L :=
  ⟨fun i hi => by
    obtain ⟨b, off, e, hlt, hc⟩ := hL.1 i hi
    obtain ⟨h1, h2⟩ := hE b off e
    exact ⟨b, off, e, Nat.lt_of_lt_of_le hlt h.size, h.cell h1 h2 hc⟩, hL.2⟩
theorem sent_stops (Bl m : Nat) (a : Option Addr) (cap : Nat) (L : List ByteArray) (E : List Nat) (W : World) (hsz : L.length + total L ≤ 100000) (hm : L.length + total L ≤ m)
    (hBl : W.cell? ⟨Bl, 0, none⟩ = some (.slice a L.length cap)) (hL : LinesAt W a L) (hEn : ∀ k ∈ E, k < W.heap.size) (hBE : Bl ∉ E) (hE : ∀ b off, a = some ⟨b, off, none⟩ → b < W.heap.size ∧ b ∉ E) :
    SeqStopsK Fence.wide 8 Try.prog 98 #[.pointer (some ⟨Bl, 0, none⟩)] (fun x : Plc m => #[Value.agg #[Value.int .i64 (x.1.1 : Int), Value.int .i64 (x.1.2 : Int)]]) (Typ 3 W.heap.size E)
      (fun ys => ys.map Subtype.val = sentP L) (fun pre => pre.map Subtype.val <+: sentP L) 100000 W := fun l J Jx X hX hJ _ hY h0 =>
  sent1_in 8 (by omega) l Bl m a cap L (Typ 3 W.heap.size E) 100000 hsz hm hsz X
    (fun A B hk hc hl => ⟨hk.cell (World.block_lt_of_cell? _ _ hBl) hBE hc, lines_typ hk hl hE⟩)
    (fun A B g cs q hk hg hc => hk.row g cs q hc (fun he => by have := hEn g he; have := hX.size; omega))
    (fun A B hk => hk.size)
    J Jx (fun pre A B h g => hJ pre A B none h g (fun r e => by cases e)) (fun pre x A h hl => hY pre x A h hl)
    ((hX.cell (p := ⟨Bl, 0, none⟩) (World.block_lt_of_cell? _ _ hBl)).trans hBl) (hL.below hX (Nat.le_refl _)) h0
end Go.Proofs.Ytnaceobbbfbhhaa
