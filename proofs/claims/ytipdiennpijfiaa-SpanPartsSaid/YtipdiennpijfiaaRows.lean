/-
  No cell of these rows narrows 'for every input' (looked for: loops, veiled, ifaces, maps, wideKeys, modest, calm, conditions, laid).
  DERIVED. THE GIVEN ROWS OF THIS SEAT. 6 by the template 'for every input the law returns true; each argument reads behind the call as it read before'; 0 by the template 'total and deterministic' (their statements: YtipdiennpijfiaaTotals.lean).
  GIVEN WITH THE SEED: the statements are not yours to turn. If you find one false, say at which input.
  Laid BY PROGRAM, IN A SANDBOX (cutbox-rows.mjs): the forced cells as the released guide's own fill.sh prints them over the translation 766479c1b0f48d1d… (all of the seat's roots in one cut). By AI agents, Wed Nov 11 2026. No macro, syntax, notation, axiom, sorry.
-/
import Derived.Test.YtipdiennpijfiaaChecked
import GoSem.Claim
import GoSem.ClaimJoined
import GoSem.ClaimMapViews
import Derived.JoinedTies
import Derived.KernelRfl
namespace Go.Proofs.Ytipdiennpijfiaa
/- THE CELL 'sum', in the pinned program and in every row, IS THE sha256 OF THE DUMP (.gsa) THAT YtipdiennpijfiaaProg.lean LOADS. Nothing in Lean hashes anything: it is a label: what it is worth is what the hold of that sum in a sandbox is worth. -/
noncomputable def Try.pinned : Pinned := { name := "ytipdiennpijfiaa", sum := "766479c1b0f48d1d407c97e98e805af495112a44d3957352c4a45a875e868fdf", checked := Try.checked }
namespace Rows
def none {H : Type} : Left H := { results := [], args := [] }

/-- 'foolscaplaw6.SpanParts': WHATEVER THE INPUT: true; the input reads as it did. -/
def spanPartsSpec : ChangeSpec := { name := "spanParts", fn := fun _ => fun
  | [d1, d2, d3, d4, d5, d6, d7] => { results := [.lit (.bool true)], args := [d1, d2, d3, d4, d5, d6, d7] }
  | _ => none }
def spanPartsRow : OpenClaim := { program := "ytipdiennpijfiaa", sum := "766479c1b0f48d1d407c97e98e805af495112a44d3957352c4a45a875e868fdf", func := "foolscap/foolscaplaw6.SpanParts", spec := "spanParts", apart := false }
def SpanPartsSaid : Prop := spanPartsRow.holds Try.pinned (OpenSpec.ofChange spanPartsSpec)

/-- ITS FALSE NEIGHBOUR: 'it returns false'. Refute it at one input. -/
def spanPartsWrong : ChangeSpec := { name := "spanParts", fn := fun _ => fun
  | [d1, d2, d3, d4, d5, d6, d7] => { results := [.lit (.bool false)], args := [d1, d2, d3, d4, d5, d6, d7] }
  | _ => none }
def SpanPartsWrongFalsely : Prop := spanPartsRow.holds Try.pinned (OpenSpec.ofChange spanPartsWrong)

/-- 'foolscaplaw6.SpanCells': WHATEVER THE INPUT: true; the input reads as it did. -/
def spanCellsSpec : ChangeSpec := { name := "spanCells", fn := fun _ => fun
  | [d1, d2] => { results := [.lit (.bool true)], args := [d1, d2] }
  | _ => none }
def spanCellsRow : OpenClaim := { program := "ytipdiennpijfiaa", sum := "766479c1b0f48d1d407c97e98e805af495112a44d3957352c4a45a875e868fdf", func := "foolscap/foolscaplaw6.SpanCells", spec := "spanCells", unfollowed := true, recurses := true, apart := false }
def SpanCellsSaid : Prop := spanCellsRow.holds Try.pinned (OpenSpec.ofChange spanCellsSpec)

/-- ITS FALSE NEIGHBOUR: 'it returns false'. Refute it at one input. -/
def spanCellsWrong : ChangeSpec := { name := "spanCells", fn := fun _ => fun
  | [d1, d2] => { results := [.lit (.bool false)], args := [d1, d2] }
  | _ => none }
def SpanCellsWrongFalsely : Prop := spanCellsRow.holds Try.pinned (OpenSpec.ofChange spanCellsWrong)

/-- 'foolscaplaw11.PairDeep': WHATEVER THE INPUT: true; the input reads as it did. -/
def pairDeepSpec : ChangeSpec := { name := "pairDeep", fn := fun _ => fun
  | [d1, d2] => { results := [.lit (.bool true)], args := [d1, d2] }
  | _ => none }
def pairDeepRow : OpenClaim := { program := "ytipdiennpijfiaa", sum := "766479c1b0f48d1d407c97e98e805af495112a44d3957352c4a45a875e868fdf", func := "foolscap/foolscaplaw11.PairDeep", spec := "pairDeep", apart := false }
def PairDeepSaid : Prop := pairDeepRow.holds Try.pinned (OpenSpec.ofChange pairDeepSpec)

/-- ITS FALSE NEIGHBOUR: 'it returns false'. Refute it at one input. -/
def pairDeepWrong : ChangeSpec := { name := "pairDeep", fn := fun _ => fun
  | [d1, d2] => { results := [.lit (.bool false)], args := [d1, d2] }
  | _ => none }
def PairDeepWrongFalsely : Prop := pairDeepRow.holds Try.pinned (OpenSpec.ofChange pairDeepWrong)

/-- 'foolscaplaw17.BracketAround': WHATEVER THE INPUT: true; the input reads as it did. -/
def bracketAroundSpec : ChangeSpec := { name := "bracketAround", fn := fun _ => fun
  | [d1, d2, d3, d4, d5] => { results := [.lit (.bool true)], args := [d1, d2, d3, d4, d5] }
  | _ => none }
def bracketAroundRow : OpenClaim := { program := "ytipdiennpijfiaa", sum := "766479c1b0f48d1d407c97e98e805af495112a44d3957352c4a45a875e868fdf", func := "foolscap/foolscaplaw17.BracketAround", spec := "bracketAround", apart := false }
def BracketAroundSaid : Prop := bracketAroundRow.holds Try.pinned (OpenSpec.ofChange bracketAroundSpec)

/-- ITS FALSE NEIGHBOUR: 'it returns false'. Refute it at one input. -/
def bracketAroundWrong : ChangeSpec := { name := "bracketAround", fn := fun _ => fun
  | [d1, d2, d3, d4, d5] => { results := [.lit (.bool false)], args := [d1, d2, d3, d4, d5] }
  | _ => none }
def BracketAroundWrongFalsely : Prop := bracketAroundRow.holds Try.pinned (OpenSpec.ofChange bracketAroundWrong)

/-- 'foolscaplaw26.ObjectDoes': WHATEVER THE INPUT: true; the input reads as it did. -/
def objectDoesSpec : ChangeSpec := { name := "objectDoes", fn := fun _ => fun
  | [d1, d2, d3, d4, d5, d6, d7] => { results := [.lit (.bool true)], args := [d1, d2, d3, d4, d5, d6, d7] }
  | _ => none }
def objectDoesRow : OpenClaim := { program := "ytipdiennpijfiaa", sum := "766479c1b0f48d1d407c97e98e805af495112a44d3957352c4a45a875e868fdf", func := "foolscap/foolscaplaw26.ObjectDoes", spec := "objectDoes", unfollowed := true, recurses := true, apart := false }
def ObjectDoesSaid : Prop := objectDoesRow.holds Try.pinned (OpenSpec.ofChange objectDoesSpec)

/-- ITS FALSE NEIGHBOUR: 'it returns false'. Refute it at one input. -/
def objectDoesWrong : ChangeSpec := { name := "objectDoes", fn := fun _ => fun
  | [d1, d2, d3, d4, d5, d6, d7] => { results := [.lit (.bool false)], args := [d1, d2, d3, d4, d5, d6, d7] }
  | _ => none }
def ObjectDoesWrongFalsely : Prop := objectDoesRow.holds Try.pinned (OpenSpec.ofChange objectDoesWrong)

/-- 'foolscaplaw26.ObjectInner': WHATEVER THE INPUT: true; the input reads as it did. -/
def objectInnerSpec : ChangeSpec := { name := "objectInner", fn := fun _ => fun
  | [d1, d2, d3, d4, d5] => { results := [.lit (.bool true)], args := [d1, d2, d3, d4, d5] }
  | _ => none }
def objectInnerRow : OpenClaim := { program := "ytipdiennpijfiaa", sum := "766479c1b0f48d1d407c97e98e805af495112a44d3957352c4a45a875e868fdf", func := "foolscap/foolscaplaw26.ObjectInner", spec := "objectInner", unfollowed := true, recurses := true, apart := false }
def ObjectInnerSaid : Prop := objectInnerRow.holds Try.pinned (OpenSpec.ofChange objectInnerSpec)

/-- ITS FALSE NEIGHBOUR: 'it returns false'. Refute it at one input. -/
def objectInnerWrong : ChangeSpec := { name := "objectInner", fn := fun _ => fun
  | [d1, d2, d3, d4, d5] => { results := [.lit (.bool false)], args := [d1, d2, d3, d4, d5] }
  | _ => none }
def ObjectInnerWrongFalsely : Prop := objectInnerRow.holds Try.pinned (OpenSpec.ofChange objectInnerWrong)

/- THE SECOND FORM. 'bulk': how many values and letters a reading holds, each counted each time it is reached (what is shared counts as often as it is met; a slice's spare places count too). A statement '..UptoSaid' is the law's where the arguments, and the package variables that the reading takes, are together of bulk at most 1048576: NARROWER than '..Said'. Prove '..Said' where nothing that the law and all that it calls make is longer than what came in: it says more and counts as full. Else prove '..UptoSaid'. A law counts once. -/
mutual
def uptoBulk {H : Type} : DataW H → Nat
  | .lit (.string bytes) => bytes.length + 1
  | .lit _ => 1
  | .nil => 1
  | .ptr d => uptoBulk d + 1
  | .slice elems spare => uptoBulkAll elems + uptoBulkAll spare + 1
  | .agg parts => uptoBulkAll parts + 1
  | .iface _ d => uptoBulk d + 1
  | .map entries => uptoBulkEntries entries + 1
  | .held _ => 1
def uptoBulkAll {H : Type} : List (DataW H) → Nat
  | [] => 0
  | d :: r => uptoBulk d + uptoBulkAll r
def uptoBulkEntries {H : Type} : List (Lit × DataW H) → Nat
  | [] => 0
  | x :: r => uptoBulkEntry x + uptoBulkEntries r
def uptoBulkEntry {H : Type} : Lit × DataW H → Nat
  | (.string bytes, d) => bytes.length + uptoBulk d + 1
  | (_, d) => uptoBulk d + 1
 end
def uptoSmall : (H : Type) → List (DataW H) → Bool := fun _ ds => decide (uptoBulkAll ds ≤ 1048576)
def OpenSpec.upto (s : _root_.Go.ChangeSpec) : _root_.Go.OpenSpec := { _root_.Go.OpenSpec.ofChange s with cond := some uptoSmall }

/-- 'foolscaplaw6.SpanParts', WHERE WHAT IT READS IS OF BULK AT MOST 1048576: true; the input reads as it did. -/
def spanPartsUptoRow : OpenClaim := { program := "ytipdiennpijfiaa", sum := "766479c1b0f48d1d407c97e98e805af495112a44d3957352c4a45a875e868fdf", func := "foolscap/foolscaplaw6.SpanParts", spec := "spanParts", apart := false, narrowed := true }
def SpanPartsUptoSaid : Prop := spanPartsUptoRow.holds Try.pinned (OpenSpec.upto spanPartsSpec)

/-- 'foolscaplaw6.SpanCells', WHERE WHAT IT READS IS OF BULK AT MOST 1048576: true; the input reads as it did. -/
def spanCellsUptoRow : OpenClaim := { program := "ytipdiennpijfiaa", sum := "766479c1b0f48d1d407c97e98e805af495112a44d3957352c4a45a875e868fdf", func := "foolscap/foolscaplaw6.SpanCells", spec := "spanCells", unfollowed := true, recurses := true, apart := false, narrowed := true }
def SpanCellsUptoSaid : Prop := spanCellsUptoRow.holds Try.pinned (OpenSpec.upto spanCellsSpec)

/-- 'foolscaplaw11.PairDeep', WHERE WHAT IT READS IS OF BULK AT MOST 1048576: true; the input reads as it did. -/
def pairDeepUptoRow : OpenClaim := { program := "ytipdiennpijfiaa", sum := "766479c1b0f48d1d407c97e98e805af495112a44d3957352c4a45a875e868fdf", func := "foolscap/foolscaplaw11.PairDeep", spec := "pairDeep", apart := false, narrowed := true }
def PairDeepUptoSaid : Prop := pairDeepUptoRow.holds Try.pinned (OpenSpec.upto pairDeepSpec)

/-- 'foolscaplaw17.BracketAround', WHERE WHAT IT READS IS OF BULK AT MOST 1048576: true; the input reads as it did. -/
def bracketAroundUptoRow : OpenClaim := { program := "ytipdiennpijfiaa", sum := "766479c1b0f48d1d407c97e98e805af495112a44d3957352c4a45a875e868fdf", func := "foolscap/foolscaplaw17.BracketAround", spec := "bracketAround", apart := false, narrowed := true }
def BracketAroundUptoSaid : Prop := bracketAroundUptoRow.holds Try.pinned (OpenSpec.upto bracketAroundSpec)

/-- 'foolscaplaw26.ObjectDoes', WHERE WHAT IT READS IS OF BULK AT MOST 1048576: true; the input reads as it did. -/
def objectDoesUptoRow : OpenClaim := { program := "ytipdiennpijfiaa", sum := "766479c1b0f48d1d407c97e98e805af495112a44d3957352c4a45a875e868fdf", func := "foolscap/foolscaplaw26.ObjectDoes", spec := "objectDoes", unfollowed := true, recurses := true, apart := false, narrowed := true }
def ObjectDoesUptoSaid : Prop := objectDoesUptoRow.holds Try.pinned (OpenSpec.upto objectDoesSpec)

/-- 'foolscaplaw26.ObjectInner', WHERE WHAT IT READS IS OF BULK AT MOST 1048576: true; the input reads as it did. -/
def objectInnerUptoRow : OpenClaim := { program := "ytipdiennpijfiaa", sum := "766479c1b0f48d1d407c97e98e805af495112a44d3957352c4a45a875e868fdf", func := "foolscap/foolscaplaw26.ObjectInner", spec := "objectInner", unfollowed := true, recurses := true, apart := false, narrowed := true }
def ObjectInnerUptoSaid : Prop := objectInnerUptoRow.holds Try.pinned (OpenSpec.upto objectInnerSpec)

end Rows
end Go.Proofs.Ytipdiennpijfiaa
