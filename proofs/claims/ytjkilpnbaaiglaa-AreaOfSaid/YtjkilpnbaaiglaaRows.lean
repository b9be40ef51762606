/-
  No cell of these rows narrows 'for every input' (looked for: loops, veiled, ifaces, maps, wideKeys, modest, calm, conditions, laid).
  DERIVED. THE GIVEN ROWS OF THIS SEAT. 12 by the template 'for every input the law returns true; each argument reads behind the call as it read before'; 0 by the template 'total and deterministic' (their statements: YtjkilpnbaaiglaaTotals.lean).
  GIVEN WITH THE SEED: the statements are not yours to turn. If you find one false, say at which input.
  Laid BY PROGRAM, IN A SANDBOX (cutbox-rows.mjs): the forced cells as the released guide's own fill.sh prints them over the translation 391467fa1040e40e… (all of the seat's roots in one cut). By AI agents, Wed Nov 11 2026. No macro, syntax, notation, axiom, sorry.
-/
import Derived.Test.YtjkilpnbaaiglaaChecked
import GoSem.Claim
import GoSem.ClaimJoined
import GoSem.ClaimMapViews
import Derived.JoinedTies
import Derived.KernelRfl
namespace Go.Proofs.Ytjkilpnbaaiglaa
/- THE CELL 'sum', in the pinned program and in every row, IS THE sha256 OF THE DUMP (.gsa) THAT YtjkilpnbaaiglaaProg.lean LOADS. Nothing in Lean hashes anything: it is a label: what it is worth is what the hold of that sum in a sandbox is worth. -/
noncomputable def Try.pinned : Pinned := { name := "ytjkilpnbaaiglaa", sum := "391467fa1040e40e2656a1dbffdf83e6c2c86595941ee56df244baab20a1d491", checked := Try.checked }
namespace Rows
def none {H : Type} : Left H := { results := [], args := [] }

/-- 'foolscaplaw5.ClassTells': WHATEVER THE INPUT: true; the input reads as it did. -/
def classTellsSpec : ChangeSpec := { name := "classTells", fn := fun _ => fun
  | [d1, d2] => { results := [.lit (.bool true)], args := [d1, d2] }
  | _ => none }
def classTellsRow : OpenClaim := { program := "ytjkilpnbaaiglaa", sum := "391467fa1040e40e2656a1dbffdf83e6c2c86595941ee56df244baab20a1d491", func := "foolscap/foolscaplaw5.ClassTells", spec := "classTells", apart := false }
def ClassTellsSaid : Prop := classTellsRow.holds Try.pinned (OpenSpec.ofChange classTellsSpec)

/-- ITS FALSE NEIGHBOUR: 'it returns false'. Refute it at one input. -/
def classTellsWrong : ChangeSpec := { name := "classTells", fn := fun _ => fun
  | [d1, d2] => { results := [.lit (.bool false)], args := [d1, d2] }
  | _ => none }
def ClassTellsWrongFalsely : Prop := classTellsRow.holds Try.pinned (OpenSpec.ofChange classTellsWrong)

/-- 'foolscaplaw5.ClassClamps': WHATEVER THE INPUT: true; the input reads as it did. -/
def classClampsSpec : ChangeSpec := { name := "classClamps", fn := fun _ => fun
  | [d1, d2, d3, d4, d5] => { results := [.lit (.bool true)], args := [d1, d2, d3, d4, d5] }
  | _ => none }
def classClampsRow : OpenClaim := { program := "ytjkilpnbaaiglaa", sum := "391467fa1040e40e2656a1dbffdf83e6c2c86595941ee56df244baab20a1d491", func := "foolscap/foolscaplaw5.ClassClamps", spec := "classClamps", apart := false }
def ClassClampsSaid : Prop := classClampsRow.holds Try.pinned (OpenSpec.ofChange classClampsSpec)

/-- ITS FALSE NEIGHBOUR: 'it returns false'. Refute it at one input. -/
def classClampsWrong : ChangeSpec := { name := "classClamps", fn := fun _ => fun
  | [d1, d2, d3, d4, d5] => { results := [.lit (.bool false)], args := [d1, d2, d3, d4, d5] }
  | _ => none }
def ClassClampsWrongFalsely : Prop := classClampsRow.holds Try.pinned (OpenSpec.ofChange classClampsWrong)

/-- 'foolscaplaw5.ClassSame': WHATEVER THE INPUT: true; the input reads as it did. -/
def classSameSpec : ChangeSpec := { name := "classSame", fn := fun _ => fun
  | [d1, d2, d3] => { results := [.lit (.bool true)], args := [d1, d2, d3] }
  | _ => none }
def classSameRow : OpenClaim := { program := "ytjkilpnbaaiglaa", sum := "391467fa1040e40e2656a1dbffdf83e6c2c86595941ee56df244baab20a1d491", func := "foolscap/foolscaplaw5.ClassSame", spec := "classSame", apart := false }
def ClassSameSaid : Prop := classSameRow.holds Try.pinned (OpenSpec.ofChange classSameSpec)

/-- ITS FALSE NEIGHBOUR: 'it returns false'. Refute it at one input. -/
def classSameWrong : ChangeSpec := { name := "classSame", fn := fun _ => fun
  | [d1, d2, d3] => { results := [.lit (.bool false)], args := [d1, d2, d3] }
  | _ => none }
def ClassSameWrongFalsely : Prop := classSameRow.holds Try.pinned (OpenSpec.ofChange classSameWrong)

/-- 'foolscaplaw5.ClassFirst': WHATEVER THE INPUT: true; the input reads as it did. -/
def classFirstSpec : ChangeSpec := { name := "classFirst", fn := fun _ => fun
  | [d1, d2] => { results := [.lit (.bool true)], args := [d1, d2] }
  | _ => none }
def classFirstRow : OpenClaim := { program := "ytjkilpnbaaiglaa", sum := "391467fa1040e40e2656a1dbffdf83e6c2c86595941ee56df244baab20a1d491", func := "foolscap/foolscaplaw5.ClassFirst", spec := "classFirst", apart := false }
def ClassFirstSaid : Prop := classFirstRow.holds Try.pinned (OpenSpec.ofChange classFirstSpec)

/-- ITS FALSE NEIGHBOUR: 'it returns false'. Refute it at one input. -/
def classFirstWrong : ChangeSpec := { name := "classFirst", fn := fun _ => fun
  | [d1, d2] => { results := [.lit (.bool false)], args := [d1, d2] }
  | _ => none }
def ClassFirstWrongFalsely : Prop := classFirstRow.holds Try.pinned (OpenSpec.ofChange classFirstWrong)

/-- 'foolscaplaw5.ClassInside': WHATEVER THE INPUT: true; the input reads as it did. -/
def classInsideSpec : ChangeSpec := { name := "classInside", fn := fun _ => fun
  | [d1, d2, d3] => { results := [.lit (.bool true)], args := [d1, d2, d3] }
  | _ => none }
def classInsideRow : OpenClaim := { program := "ytjkilpnbaaiglaa", sum := "391467fa1040e40e2656a1dbffdf83e6c2c86595941ee56df244baab20a1d491", func := "foolscap/foolscaplaw5.ClassInside", spec := "classInside", apart := false }
def ClassInsideSaid : Prop := classInsideRow.holds Try.pinned (OpenSpec.ofChange classInsideSpec)

/-- ITS FALSE NEIGHBOUR: 'it returns false'. Refute it at one input. -/
def classInsideWrong : ChangeSpec := { name := "classInside", fn := fun _ => fun
  | [d1, d2, d3] => { results := [.lit (.bool false)], args := [d1, d2, d3] }
  | _ => none }
def ClassInsideWrongFalsely : Prop := classInsideRow.holds Try.pinned (OpenSpec.ofChange classInsideWrong)

/-- 'foolscaplaw6.SpanOrders': WHATEVER THE INPUT: true; the input reads as it did. -/
def spanOrdersSpec : ChangeSpec := { name := "spanOrders", fn := fun _ => fun
  | [d1, d2, d3] => { results := [.lit (.bool true)], args := [d1, d2, d3] }
  | _ => none }
def spanOrdersRow : OpenClaim := { program := "ytjkilpnbaaiglaa", sum := "391467fa1040e40e2656a1dbffdf83e6c2c86595941ee56df244baab20a1d491", func := "foolscap/foolscaplaw6.SpanOrders", spec := "spanOrders", apart := false }
def SpanOrdersSaid : Prop := spanOrdersRow.holds Try.pinned (OpenSpec.ofChange spanOrdersSpec)

/-- ITS FALSE NEIGHBOUR: 'it returns false'. Refute it at one input. -/
def spanOrdersWrong : ChangeSpec := { name := "spanOrders", fn := fun _ => fun
  | [d1, d2, d3] => { results := [.lit (.bool false)], args := [d1, d2, d3] }
  | _ => none }
def SpanOrdersWrongFalsely : Prop := spanOrdersRow.holds Try.pinned (OpenSpec.ofChange spanOrdersWrong)

/-- 'foolscaplaw6.SpanParts': WHATEVER THE INPUT: true; the input reads as it did. -/
def spanPartsSpec : ChangeSpec := { name := "spanParts", fn := fun _ => fun
  | [d1, d2, d3, d4, d5, d6, d7] => { results := [.lit (.bool true)], args := [d1, d2, d3, d4, d5, d6, d7] }
  | _ => none }
def spanPartsRow : OpenClaim := { program := "ytjkilpnbaaiglaa", sum := "391467fa1040e40e2656a1dbffdf83e6c2c86595941ee56df244baab20a1d491", func := "foolscap/foolscaplaw6.SpanParts", spec := "spanParts", apart := false }
def SpanPartsSaid : Prop := spanPartsRow.holds Try.pinned (OpenSpec.ofChange spanPartsSpec)

/-- ITS FALSE NEIGHBOUR: 'it returns false'. Refute it at one input. -/
def spanPartsWrong : ChangeSpec := { name := "spanParts", fn := fun _ => fun
  | [d1, d2, d3, d4, d5, d6, d7] => { results := [.lit (.bool false)], args := [d1, d2, d3, d4, d5, d6, d7] }
  | _ => none }
def SpanPartsWrongFalsely : Prop := spanPartsRow.holds Try.pinned (OpenSpec.ofChange spanPartsWrong)

/-- 'foolscaplaw6.SpanWhole': WHATEVER THE INPUT: true; the input reads as it did. -/
def spanWholeSpec : ChangeSpec := { name := "spanWhole", fn := fun _ => fun
  | [d] => { results := [.lit (.bool true)], args := [d] }
  | _ => none }
def spanWholeRow : OpenClaim := { program := "ytjkilpnbaaiglaa", sum := "391467fa1040e40e2656a1dbffdf83e6c2c86595941ee56df244baab20a1d491", func := "foolscap/foolscaplaw6.SpanWhole", spec := "spanWhole", apart := false }
def SpanWholeSaid : Prop := spanWholeRow.holds Try.pinned (OpenSpec.ofChange spanWholeSpec)

/-- ITS FALSE NEIGHBOUR: 'it returns false'. Refute it at one input. -/
def spanWholeWrong : ChangeSpec := { name := "spanWhole", fn := fun _ => fun
  | [d] => { results := [.lit (.bool false)], args := [d] }
  | _ => none }
def SpanWholeWrongFalsely : Prop := spanWholeRow.holds Try.pinned (OpenSpec.ofChange spanWholeWrong)

/-- 'foolscaplaw27.AreaOf': WHATEVER THE INPUT: true; the input reads as it did. -/
def areaOfSpec : ChangeSpec := { name := "areaOf", fn := fun _ => fun
  | [d1, d2, d3, d4, d5, d6, d7, d8] => { results := [.lit (.bool true)], args := [d1, d2, d3, d4, d5, d6, d7, d8] }
  | _ => none }
def areaOfRow : OpenClaim := { program := "ytjkilpnbaaiglaa", sum := "391467fa1040e40e2656a1dbffdf83e6c2c86595941ee56df244baab20a1d491", func := "foolscap/foolscaplaw27.AreaOf", spec := "areaOf", apart := false }
def AreaOfSaid : Prop := areaOfRow.holds Try.pinned (OpenSpec.ofChange areaOfSpec)

/-- ITS FALSE NEIGHBOUR: 'it returns false'. Refute it at one input. -/
def areaOfWrong : ChangeSpec := { name := "areaOf", fn := fun _ => fun
  | [d1, d2, d3, d4, d5, d6, d7, d8] => { results := [.lit (.bool false)], args := [d1, d2, d3, d4, d5, d6, d7, d8] }
  | _ => none }
def AreaOfWrongFalsely : Prop := areaOfRow.holds Try.pinned (OpenSpec.ofChange areaOfWrong)

/-- 'foolscaplaw27.AreaTurned': WHATEVER THE INPUT: true; the input reads as it did. -/
def areaTurnedSpec : ChangeSpec := { name := "areaTurned", fn := fun _ => fun
  | [d1, d2, d3, d4, d5, d6] => { results := [.lit (.bool true)], args := [d1, d2, d3, d4, d5, d6] }
  | _ => none }
def areaTurnedRow : OpenClaim := { program := "ytjkilpnbaaiglaa", sum := "391467fa1040e40e2656a1dbffdf83e6c2c86595941ee56df244baab20a1d491", func := "foolscap/foolscaplaw27.AreaTurned", spec := "areaTurned", apart := false }
def AreaTurnedSaid : Prop := areaTurnedRow.holds Try.pinned (OpenSpec.ofChange areaTurnedSpec)

/-- ITS FALSE NEIGHBOUR: 'it returns false'. Refute it at one input. -/
def areaTurnedWrong : ChangeSpec := { name := "areaTurned", fn := fun _ => fun
  | [d1, d2, d3, d4, d5, d6] => { results := [.lit (.bool false)], args := [d1, d2, d3, d4, d5, d6] }
  | _ => none }
def AreaTurnedWrongFalsely : Prop := areaTurnedRow.holds Try.pinned (OpenSpec.ofChange areaTurnedWrong)

/-- 'foolscaplaw27.AreaBreaks': WHATEVER THE INPUT: true; the input reads as it did. -/
def areaBreaksSpec : ChangeSpec := { name := "areaBreaks", fn := fun _ => fun
  | [d1, d2, d3, d4] => { results := [.lit (.bool true)], args := [d1, d2, d3, d4] }
  | _ => none }
def areaBreaksRow : OpenClaim := { program := "ytjkilpnbaaiglaa", sum := "391467fa1040e40e2656a1dbffdf83e6c2c86595941ee56df244baab20a1d491", func := "foolscap/foolscaplaw27.AreaBreaks", spec := "areaBreaks", apart := false }
def AreaBreaksSaid : Prop := areaBreaksRow.holds Try.pinned (OpenSpec.ofChange areaBreaksSpec)

/-- ITS FALSE NEIGHBOUR: 'it returns false'. Refute it at one input. -/
def areaBreaksWrong : ChangeSpec := { name := "areaBreaks", fn := fun _ => fun
  | [d1, d2, d3, d4] => { results := [.lit (.bool false)], args := [d1, d2, d3, d4] }
  | _ => none }
def AreaBreaksWrongFalsely : Prop := areaBreaksRow.holds Try.pinned (OpenSpec.ofChange areaBreaksWrong)

/-- 'foolscaplaw6.SpanCells': WHATEVER THE INPUT: true; the input reads as it did. -/
def spanCellsSpec : ChangeSpec := { name := "spanCells", fn := fun _ => fun
  | [d1, d2] => { results := [.lit (.bool true)], args := [d1, d2] }
  | _ => none }
def spanCellsRow : OpenClaim := { program := "ytjkilpnbaaiglaa", sum := "391467fa1040e40e2656a1dbffdf83e6c2c86595941ee56df244baab20a1d491", func := "foolscap/foolscaplaw6.SpanCells", spec := "spanCells", unfollowed := true, recurses := true, apart := false }
def SpanCellsSaid : Prop := spanCellsRow.holds Try.pinned (OpenSpec.ofChange spanCellsSpec)

/-- ITS FALSE NEIGHBOUR: 'it returns false'. Refute it at one input. -/
def spanCellsWrong : ChangeSpec := { name := "spanCells", fn := fun _ => fun
  | [d1, d2] => { results := [.lit (.bool false)], args := [d1, d2] }
  | _ => none }
def SpanCellsWrongFalsely : Prop := spanCellsRow.holds Try.pinned (OpenSpec.ofChange spanCellsWrong)

/- THE SECOND FORM. 'bulk': how many values and letters a reading holds, each counted each time it is reached (what is shared counts as often as it is met; a slice's spare places count too). A statement '..UptoSaid' is the law's where the arguments, and the package variables that the reading takes, are together of bulk at most 1048576: NARROWER than '..Said'. Prove '..Said' where nothing that the law and all that it calls make is longer than what came in: it says more and counts as full. Else prove '..UptoSaid'. A law counts once. -/
mutual
def uptoBulk {H : Type} : DataW H → Nat
  | .lit (.string bytes) => bytes.length + 1
  | .lit _ => 1
  | .nil => 1
  | .ptr d => uptoBulk d + 1
  | .slice elems spare => uptoBulkAll elems + uptoBulkAll spare + 1
  | .agg parts => uptoBulkAll parts + 1
  | .iface _ d => uptoBulk d + 1
  | .map entries => uptoBulkEntries entries + 1
  | .held _ => 1
def uptoBulkAll {H : Type} : List (DataW H) → Nat
  | [] => 0
  | d :: r => uptoBulk d + uptoBulkAll r
def uptoBulkEntries {H : Type} : List (Lit × DataW H) → Nat
  | [] => 0
  | x :: r => uptoBulkEntry x + uptoBulkEntries r
def uptoBulkEntry {H : Type} : Lit × DataW H → Nat
  | (.string bytes, d) => bytes.length + uptoBulk d + 1
  | (_, d) => uptoBulk d + 1
 end
def uptoSmall : (H : Type) → List (DataW H) → Bool := fun _ ds => decide (uptoBulkAll ds ≤ 1048576)
def OpenSpec.upto (s : _root_.Go.ChangeSpec) : _root_.Go.OpenSpec := { _root_.Go.OpenSpec.ofChange s with cond := some uptoSmall }

/-- 'foolscaplaw5.ClassTells', WHERE WHAT IT READS IS OF BULK AT MOST 1048576: true; the input reads as it did. -/
def classTellsUptoRow : OpenClaim := { program := "ytjkilpnbaaiglaa", sum := "391467fa1040e40e2656a1dbffdf83e6c2c86595941ee56df244baab20a1d491", func := "foolscap/foolscaplaw5.ClassTells", spec := "classTells", apart := false, narrowed := true }
def ClassTellsUptoSaid : Prop := classTellsUptoRow.holds Try.pinned (OpenSpec.upto classTellsSpec)

/-- 'foolscaplaw5.ClassClamps', WHERE WHAT IT READS IS OF BULK AT MOST 1048576: true; the input reads as it did. -/
def classClampsUptoRow : OpenClaim := { program := "ytjkilpnbaaiglaa", sum := "391467fa1040e40e2656a1dbffdf83e6c2c86595941ee56df244baab20a1d491", func := "foolscap/foolscaplaw5.ClassClamps", spec := "classClamps", apart := false, narrowed := true }
def ClassClampsUptoSaid : Prop := classClampsUptoRow.holds Try.pinned (OpenSpec.upto classClampsSpec)

/-- 'foolscaplaw5.ClassSame', WHERE WHAT IT READS IS OF BULK AT MOST 1048576: true; the input reads as it did. -/
def classSameUptoRow : OpenClaim := { program := "ytjkilpnbaaiglaa", sum := "391467fa1040e40e2656a1dbffdf83e6c2c86595941ee56df244baab20a1d491", func := "foolscap/foolscaplaw5.ClassSame", spec := "classSame", apart := false, narrowed := true }
def ClassSameUptoSaid : Prop := classSameUptoRow.holds Try.pinned (OpenSpec.upto classSameSpec)

/-- 'foolscaplaw5.ClassFirst', WHERE WHAT IT READS IS OF BULK AT MOST 1048576: true; the input reads as it did. -/
def classFirstUptoRow : OpenClaim := { program := "ytjkilpnbaaiglaa", sum := "391467fa1040e40e2656a1dbffdf83e6c2c86595941ee56df244baab20a1d491", func := "foolscap/foolscaplaw5.ClassFirst", spec := "classFirst", apart := false, narrowed := true }
def ClassFirstUptoSaid : Prop := classFirstUptoRow.holds Try.pinned (OpenSpec.upto classFirstSpec)

/-- 'foolscaplaw5.ClassInside', WHERE WHAT IT READS IS OF BULK AT MOST 1048576: true; the input reads as it did. -/
def classInsideUptoRow : OpenClaim := { program := "ytjkilpnbaaiglaa", sum := "391467fa1040e40e2656a1dbffdf83e6c2c86595941ee56df244baab20a1d491", func := "foolscap/foolscaplaw5.ClassInside", spec := "classInside", apart := false, narrowed := true }
def ClassInsideUptoSaid : Prop := classInsideUptoRow.holds Try.pinned (OpenSpec.upto classInsideSpec)

/-- 'foolscaplaw6.SpanOrders', WHERE WHAT IT READS IS OF BULK AT MOST 1048576: true; the input reads as it did. -/
def spanOrdersUptoRow : OpenClaim := { program := "ytjkilpnbaaiglaa", sum := "391467fa1040e40e2656a1dbffdf83e6c2c86595941ee56df244baab20a1d491", func := "foolscap/foolscaplaw6.SpanOrders", spec := "spanOrders", apart := false, narrowed := true }
def SpanOrdersUptoSaid : Prop := spanOrdersUptoRow.holds Try.pinned (OpenSpec.upto spanOrdersSpec)

/-- 'foolscaplaw6.SpanParts', WHERE WHAT IT READS IS OF BULK AT MOST 1048576: true; the input reads as it did. -/
def spanPartsUptoRow : OpenClaim := { program := "ytjkilpnbaaiglaa", sum := "391467fa1040e40e2656a1dbffdf83e6c2c86595941ee56df244baab20a1d491", func := "foolscap/foolscaplaw6.SpanParts", spec := "spanParts", apart := false, narrowed := true }
def SpanPartsUptoSaid : Prop := spanPartsUptoRow.holds Try.pinned (OpenSpec.upto spanPartsSpec)

/-- 'foolscaplaw6.SpanWhole', WHERE WHAT IT READS IS OF BULK AT MOST 1048576: true; the input reads as it did. -/
def spanWholeUptoRow : OpenClaim := { program := "ytjkilpnbaaiglaa", sum := "391467fa1040e40e2656a1dbffdf83e6c2c86595941ee56df244baab20a1d491", func := "foolscap/foolscaplaw6.SpanWhole", spec := "spanWhole", apart := false, narrowed := true }
def SpanWholeUptoSaid : Prop := spanWholeUptoRow.holds Try.pinned (OpenSpec.upto spanWholeSpec)

/-- 'foolscaplaw27.AreaOf', WHERE WHAT IT READS IS OF BULK AT MOST 1048576: true; the input reads as it did. -/
def areaOfUptoRow : OpenClaim := { program := "ytjkilpnbaaiglaa", sum := "391467fa1040e40e2656a1dbffdf83e6c2c86595941ee56df244baab20a1d491", func := "foolscap/foolscaplaw27.AreaOf", spec := "areaOf", apart := false, narrowed := true }
def AreaOfUptoSaid : Prop := areaOfUptoRow.holds Try.pinned (OpenSpec.upto areaOfSpec)

/-- 'foolscaplaw27.AreaTurned', WHERE WHAT IT READS IS OF BULK AT MOST 1048576: true; the input reads as it did. -/
def areaTurnedUptoRow : OpenClaim := { program := "ytjkilpnbaaiglaa", sum := "391467fa1040e40e2656a1dbffdf83e6c2c86595941ee56df244baab20a1d491", func := "foolscap/foolscaplaw27.AreaTurned", spec := "areaTurned", apart := false, narrowed := true }
def AreaTurnedUptoSaid : Prop := areaTurnedUptoRow.holds Try.pinned (OpenSpec.upto areaTurnedSpec)

/-- 'foolscaplaw27.AreaBreaks', WHERE WHAT IT READS IS OF BULK AT MOST 1048576: true; the input reads as it did. -/
def areaBreaksUptoRow : OpenClaim := { program := "ytjkilpnbaaiglaa", sum := "391467fa1040e40e2656a1dbffdf83e6c2c86595941ee56df244baab20a1d491", func := "foolscap/foolscaplaw27.AreaBreaks", spec := "areaBreaks", apart := false, narrowed := true }
def AreaBreaksUptoSaid : Prop := areaBreaksUptoRow.holds Try.pinned (OpenSpec.upto areaBreaksSpec)

/-- 'foolscaplaw6.SpanCells', WHERE WHAT IT READS IS OF BULK AT MOST 1048576: true; the input reads as it did. -/
def spanCellsUptoRow : OpenClaim := { program := "ytjkilpnbaaiglaa", sum := "391467fa1040e40e2656a1dbffdf83e6c2c86595941ee56df244baab20a1d491", func := "foolscap/foolscaplaw6.SpanCells", spec := "spanCells", unfollowed := true, recurses := true, apart := false, narrowed := true }
def SpanCellsUptoSaid : Prop := spanCellsUptoRow.holds Try.pinned (OpenSpec.upto spanCellsSpec)

end Rows
end Go.Proofs.Ytjkilpnbaaiglaa
