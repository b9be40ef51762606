/-
  No cell of these rows narrows 'for every input' (looked for: loops, veiled, ifaces, maps, wideKeys, modest, calm, conditions, laid).
  DERIVED. THE GIVEN ROWS OF THIS SEAT. 16 by the template 'for every input the law returns true; each argument reads behind the call as it read before'; 0 by the template 'total and deterministic' (their statements: YtnaikdmkabfnlaaTotals.lean).
  GIVEN WITH THE SEED: the statements are not yours to turn. If you find one false, say at which input.
  Laid BY PROGRAM, IN A SANDBOX (cutbox-rows.mjs): the forced cells as the released guide's own fill.sh prints them over the translation 531e499377372517… (all of the seat's roots in one cut). By AI agents, Wed Nov 11 2026. No macro, syntax, notation, axiom, sorry.
-/
import Derived.Test.YtnaikdmkabfnlaaChecked
import GoSem.Claim
import GoSem.ClaimJoined
import GoSem.ClaimMapViews
import Derived.JoinedTies
import Derived.KernelRfl
namespace Go.Proofs.Ytnaikdmkabfnlaa
/- THE CELL 'sum', in the pinned program and in every row, IS THE sha256 OF THE DUMP (.gsa) THAT YtnaikdmkabfnlaaProg.lean LOADS. Nothing in Lean hashes anything: it is a label: what it is worth is what the hold of that sum in a sandbox is worth. -/
noncomputable def Try.pinned : Pinned := { name := "ytnaikdmkabfnlaa", sum := "531e499377372517160c33807400a68c7f0f0601fb79c26b6b81f8d9542f803d", checked := Try.checked }
namespace Rows
def none {H : Type} : Left H := { results := [], args := [] }

/-- 'foolscaplaw6.SpanParts': WHATEVER THE INPUT: true; the input reads as it did. -/
def spanPartsSpec : ChangeSpec := { name := "spanParts", fn := fun _ => fun
  | [d1, d2, d3, d4, d5, d6, d7] => { results := [.lit (.bool true)], args := [d1, d2, d3, d4, d5, d6, d7] }
  | _ => none }
def spanPartsRow : OpenClaim := { program := "ytnaikdmkabfnlaa", sum := "531e499377372517160c33807400a68c7f0f0601fb79c26b6b81f8d9542f803d", func := "foolscap/foolscaplaw6.SpanParts", spec := "spanParts", apart := false }
def SpanPartsSaid : Prop := spanPartsRow.holds Try.pinned (OpenSpec.ofChange spanPartsSpec)

/-- ITS FALSE NEIGHBOUR: 'it returns false'. Refute it at one input. -/
def spanPartsWrong : ChangeSpec := { name := "spanParts", fn := fun _ => fun
  | [d1, d2, d3, d4, d5, d6, d7] => { results := [.lit (.bool false)], args := [d1, d2, d3, d4, d5, d6, d7] }
  | _ => none }
def SpanPartsWrongFalsely : Prop := spanPartsRow.holds Try.pinned (OpenSpec.ofChange spanPartsWrong)

/-- 'foolscaplaw6.SpanCells': WHATEVER THE INPUT: true; the input reads as it did. -/
def spanCellsSpec : ChangeSpec := { name := "spanCells", fn := fun _ => fun
  | [d1, d2] => { results := [.lit (.bool true)], args := [d1, d2] }
  | _ => none }
def spanCellsRow : OpenClaim := { program := "ytnaikdmkabfnlaa", sum := "531e499377372517160c33807400a68c7f0f0601fb79c26b6b81f8d9542f803d", func := "foolscap/foolscaplaw6.SpanCells", spec := "spanCells", unfollowed := true, recurses := true, apart := false }
def SpanCellsSaid : Prop := spanCellsRow.holds Try.pinned (OpenSpec.ofChange spanCellsSpec)

/-- ITS FALSE NEIGHBOUR: 'it returns false'. Refute it at one input. -/
def spanCellsWrong : ChangeSpec := { name := "spanCells", fn := fun _ => fun
  | [d1, d2] => { results := [.lit (.bool false)], args := [d1, d2] }
  | _ => none }
def SpanCellsWrongFalsely : Prop := spanCellsRow.holds Try.pinned (OpenSpec.ofChange spanCellsWrong)

/-- 'foolscaplaw16.QuotePairs': WHATEVER THE INPUT: true; the input reads as it did. -/
def quotePairsSpec : ChangeSpec := { name := "quotePairs", fn := fun _ => fun
  | [d1, d2, d3] => { results := [.lit (.bool true)], args := [d1, d2, d3] }
  | _ => none }
def quotePairsRow : OpenClaim := { program := "ytnaikdmkabfnlaa", sum := "531e499377372517160c33807400a68c7f0f0601fb79c26b6b81f8d9542f803d", func := "foolscap/foolscaplaw16.QuotePairs", spec := "quotePairs", unfollowed := true, recurses := true, apart := false }
def QuotePairsSaid : Prop := quotePairsRow.holds Try.pinned (OpenSpec.ofChange quotePairsSpec)

/-- ITS FALSE NEIGHBOUR: 'it returns false'. Refute it at one input. -/
def quotePairsWrong : ChangeSpec := { name := "quotePairs", fn := fun _ => fun
  | [d1, d2, d3] => { results := [.lit (.bool false)], args := [d1, d2, d3] }
  | _ => none }
def QuotePairsWrongFalsely : Prop := quotePairsRow.holds Try.pinned (OpenSpec.ofChange quotePairsWrong)

/-- 'foolscaplaw16.QuoteObjects': WHATEVER THE INPUT: true; the input reads as it did. -/
def quoteObjectsSpec : ChangeSpec := { name := "quoteObjects", fn := fun _ => fun
  | [d1, d2, d3, d4, d5] => { results := [.lit (.bool true)], args := [d1, d2, d3, d4, d5] }
  | _ => none }
def quoteObjectsRow : OpenClaim := { program := "ytnaikdmkabfnlaa", sum := "531e499377372517160c33807400a68c7f0f0601fb79c26b6b81f8d9542f803d", func := "foolscap/foolscaplaw16.QuoteObjects", spec := "quoteObjects", unfollowed := true, recurses := true, apart := false }
def QuoteObjectsSaid : Prop := quoteObjectsRow.holds Try.pinned (OpenSpec.ofChange quoteObjectsSpec)

/-- ITS FALSE NEIGHBOUR: 'it returns false'. Refute it at one input. -/
def quoteObjectsWrong : ChangeSpec := { name := "quoteObjects", fn := fun _ => fun
  | [d1, d2, d3, d4, d5] => { results := [.lit (.bool false)], args := [d1, d2, d3, d4, d5] }
  | _ => none }
def QuoteObjectsWrongFalsely : Prop := quoteObjectsRow.holds Try.pinned (OpenSpec.ofChange quoteObjectsWrong)

/-- 'foolscaplaw16.QuoteInside': WHATEVER THE INPUT: true; the input reads as it did. -/
def quoteInsideSpec : ChangeSpec := { name := "quoteInside", fn := fun _ => fun
  | [d1, d2, d3, d4] => { results := [.lit (.bool true)], args := [d1, d2, d3, d4] }
  | _ => none }
def quoteInsideRow : OpenClaim := { program := "ytnaikdmkabfnlaa", sum := "531e499377372517160c33807400a68c7f0f0601fb79c26b6b81f8d9542f803d", func := "foolscap/foolscaplaw16.QuoteInside", spec := "quoteInside", unfollowed := true, recurses := true, apart := false }
def QuoteInsideSaid : Prop := quoteInsideRow.holds Try.pinned (OpenSpec.ofChange quoteInsideSpec)

/-- ITS FALSE NEIGHBOUR: 'it returns false'. Refute it at one input. -/
def quoteInsideWrong : ChangeSpec := { name := "quoteInside", fn := fun _ => fun
  | [d1, d2, d3, d4] => { results := [.lit (.bool false)], args := [d1, d2, d3, d4] }
  | _ => none }
def QuoteInsideWrongFalsely : Prop := quoteInsideRow.holds Try.pinned (OpenSpec.ofChange quoteInsideWrong)

/-- 'foolscaplaw15.WordRuns': WHATEVER THE INPUT: true; the input reads as it did. -/
def wordRunsSpec : ChangeSpec := { name := "wordRuns", fn := fun _ => fun
  | [d1, d2, d3] => { results := [.lit (.bool true)], args := [d1, d2, d3] }
  | _ => none }
def wordRunsRow : OpenClaim := { program := "ytnaikdmkabfnlaa", sum := "531e499377372517160c33807400a68c7f0f0601fb79c26b6b81f8d9542f803d", func := "foolscap/foolscaplaw15.WordRuns", spec := "wordRuns", unfollowed := true, recurses := true, apart := false }
def WordRunsSaid : Prop := wordRunsRow.holds Try.pinned (OpenSpec.ofChange wordRunsSpec)

/-- ITS FALSE NEIGHBOUR: 'it returns false'. Refute it at one input. -/
def wordRunsWrong : ChangeSpec := { name := "wordRuns", fn := fun _ => fun
  | [d1, d2, d3] => { results := [.lit (.bool false)], args := [d1, d2, d3] }
  | _ => none }
def WordRunsWrongFalsely : Prop := wordRunsRow.holds Try.pinned (OpenSpec.ofChange wordRunsWrong)

/-- 'foolscaplaw15.WordObjects': WHATEVER THE INPUT: true; the input reads as it did. -/
def wordObjectsSpec : ChangeSpec := { name := "wordObjects", fn := fun _ => fun
  | [d1, d2, d3, d4, d5, d6] => { results := [.lit (.bool true)], args := [d1, d2, d3, d4, d5, d6] }
  | _ => none }
def wordObjectsRow : OpenClaim := { program := "ytnaikdmkabfnlaa", sum := "531e499377372517160c33807400a68c7f0f0601fb79c26b6b81f8d9542f803d", func := "foolscap/foolscaplaw15.WordObjects", spec := "wordObjects", unfollowed := true, recurses := true, apart := false }
def WordObjectsSaid : Prop := wordObjectsRow.holds Try.pinned (OpenSpec.ofChange wordObjectsSpec)

/-- ITS FALSE NEIGHBOUR: 'it returns false'. Refute it at one input. -/
def wordObjectsWrong : ChangeSpec := { name := "wordObjects", fn := fun _ => fun
  | [d1, d2, d3, d4, d5, d6] => { results := [.lit (.bool false)], args := [d1, d2, d3, d4, d5, d6] }
  | _ => none }
def WordObjectsWrongFalsely : Prop := wordObjectsRow.holds Try.pinned (OpenSpec.ofChange wordObjectsWrong)

/-- 'foolscaplaw15.WordCounts': WHATEVER THE INPUT: true; the input reads as it did. -/
def wordCountsSpec : ChangeSpec := { name := "wordCounts", fn := fun _ => fun
  | [d1, d2, d3, d4] => { results := [.lit (.bool true)], args := [d1, d2, d3, d4] }
  | _ => none }
def wordCountsRow : OpenClaim := { program := "ytnaikdmkabfnlaa", sum := "531e499377372517160c33807400a68c7f0f0601fb79c26b6b81f8d9542f803d", func := "foolscap/foolscaplaw15.WordCounts", spec := "wordCounts", unfollowed := true, recurses := true, apart := false }
def WordCountsSaid : Prop := wordCountsRow.holds Try.pinned (OpenSpec.ofChange wordCountsSpec)

/-- ITS FALSE NEIGHBOUR: 'it returns false'. Refute it at one input. -/
def wordCountsWrong : ChangeSpec := { name := "wordCounts", fn := fun _ => fun
  | [d1, d2, d3, d4] => { results := [.lit (.bool false)], args := [d1, d2, d3, d4] }
  | _ => none }
def WordCountsWrongFalsely : Prop := wordCountsRow.holds Try.pinned (OpenSpec.ofChange wordCountsWrong)

/-- 'foolscaplaw15.WordAround': WHATEVER THE INPUT: true; the input reads as it did. -/
def wordAroundSpec : ChangeSpec := { name := "wordAround", fn := fun _ => fun
  | [d1, d2, d3, d4] => { results := [.lit (.bool true)], args := [d1, d2, d3, d4] }
  | _ => none }
def wordAroundRow : OpenClaim := { program := "ytnaikdmkabfnlaa", sum := "531e499377372517160c33807400a68c7f0f0601fb79c26b6b81f8d9542f803d", func := "foolscap/foolscaplaw15.WordAround", spec := "wordAround", unfollowed := true, recurses := true, apart := false }
def WordAroundSaid : Prop := wordAroundRow.holds Try.pinned (OpenSpec.ofChange wordAroundSpec)

/-- ITS FALSE NEIGHBOUR: 'it returns false'. Refute it at one input. -/
def wordAroundWrong : ChangeSpec := { name := "wordAround", fn := fun _ => fun
  | [d1, d2, d3, d4] => { results := [.lit (.bool false)], args := [d1, d2, d3, d4] }
  | _ => none }
def WordAroundWrongFalsely : Prop := wordAroundRow.holds Try.pinned (OpenSpec.ofChange wordAroundWrong)

/-- 'foolscaplaw11.PairMatch': WHATEVER THE INPUT: true; the input reads as it did. -/
def pairMatchSpec : ChangeSpec := { name := "pairMatch", fn := fun _ => fun
  | [d1, d2, d3, d4, d5] => { results := [.lit (.bool true)], args := [d1, d2, d3, d4, d5] }
  | _ => none }
def pairMatchRow : OpenClaim := { program := "ytnaikdmkabfnlaa", sum := "531e499377372517160c33807400a68c7f0f0601fb79c26b6b81f8d9542f803d", func := "foolscap/foolscaplaw11.PairMatch", spec := "pairMatch", apart := false }
def PairMatchSaid : Prop := pairMatchRow.holds Try.pinned (OpenSpec.ofChange pairMatchSpec)

/-- ITS FALSE NEIGHBOUR: 'it returns false'. Refute it at one input. -/
def pairMatchWrong : ChangeSpec := { name := "pairMatch", fn := fun _ => fun
  | [d1, d2, d3, d4, d5] => { results := [.lit (.bool false)], args := [d1, d2, d3, d4, d5] }
  | _ => none }
def PairMatchWrongFalsely : Prop := pairMatchRow.holds Try.pinned (OpenSpec.ofChange pairMatchWrong)

/-- 'foolscaplaw11.PairBack': WHATEVER THE INPUT: true; the input reads as it did. -/
def pairBackSpec : ChangeSpec := { name := "pairBack", fn := fun _ => fun
  | [d1, d2, d3] => { results := [.lit (.bool true)], args := [d1, d2, d3] }
  | _ => none }
def pairBackRow : OpenClaim := { program := "ytnaikdmkabfnlaa", sum := "531e499377372517160c33807400a68c7f0f0601fb79c26b6b81f8d9542f803d", func := "foolscap/foolscaplaw11.PairBack", spec := "pairBack", apart := false }
def PairBackSaid : Prop := pairBackRow.holds Try.pinned (OpenSpec.ofChange pairBackSpec)

/-- ITS FALSE NEIGHBOUR: 'it returns false'. Refute it at one input. -/
def pairBackWrong : ChangeSpec := { name := "pairBack", fn := fun _ => fun
  | [d1, d2, d3] => { results := [.lit (.bool false)], args := [d1, d2, d3] }
  | _ => none }
def PairBackWrongFalsely : Prop := pairBackRow.holds Try.pinned (OpenSpec.ofChange pairBackWrong)

/-- 'foolscaplaw11.PairEnclosing': WHATEVER THE INPUT: true; the input reads as it did. -/
def pairEnclosingSpec : ChangeSpec := { name := "pairEnclosing", fn := fun _ => fun
  | [d1, d2, d3, d4, d5, d6] => { results := [.lit (.bool true)], args := [d1, d2, d3, d4, d5, d6] }
  | _ => none }
def pairEnclosingRow : OpenClaim := { program := "ytnaikdmkabfnlaa", sum := "531e499377372517160c33807400a68c7f0f0601fb79c26b6b81f8d9542f803d", func := "foolscap/foolscaplaw11.PairEnclosing", spec := "pairEnclosing", apart := false }
def PairEnclosingSaid : Prop := pairEnclosingRow.holds Try.pinned (OpenSpec.ofChange pairEnclosingSpec)

/-- ITS FALSE NEIGHBOUR: 'it returns false'. Refute it at one input. -/
def pairEnclosingWrong : ChangeSpec := { name := "pairEnclosing", fn := fun _ => fun
  | [d1, d2, d3, d4, d5, d6] => { results := [.lit (.bool false)], args := [d1, d2, d3, d4, d5, d6] }
  | _ => none }
def PairEnclosingWrongFalsely : Prop := pairEnclosingRow.holds Try.pinned (OpenSpec.ofChange pairEnclosingWrong)

/-- 'foolscaplaw11.PairDeep': WHATEVER THE INPUT: true; the input reads as it did. -/
def pairDeepSpec : ChangeSpec := { name := "pairDeep", fn := fun _ => fun
  | [d1, d2] => { results := [.lit (.bool true)], args := [d1, d2] }
  | _ => none }
def pairDeepRow : OpenClaim := { program := "ytnaikdmkabfnlaa", sum := "531e499377372517160c33807400a68c7f0f0601fb79c26b6b81f8d9542f803d", func := "foolscap/foolscaplaw11.PairDeep", spec := "pairDeep", apart := false }
def PairDeepSaid : Prop := pairDeepRow.holds Try.pinned (OpenSpec.ofChange pairDeepSpec)

/-- ITS FALSE NEIGHBOUR: 'it returns false'. Refute it at one input. -/
def pairDeepWrong : ChangeSpec := { name := "pairDeep", fn := fun _ => fun
  | [d1, d2] => { results := [.lit (.bool false)], args := [d1, d2] }
  | _ => none }
def PairDeepWrongFalsely : Prop := pairDeepRow.holds Try.pinned (OpenSpec.ofChange pairDeepWrong)

/-- 'foolscaplaw17.BracketObjects': WHATEVER THE INPUT: true; the input reads as it did. -/
def bracketObjectsSpec : ChangeSpec := { name := "bracketObjects", fn := fun _ => fun
  | [d1, d2, d3, d4, d5, d6] => { results := [.lit (.bool true)], args := [d1, d2, d3, d4, d5, d6] }
  | _ => none }
def bracketObjectsRow : OpenClaim := { program := "ytnaikdmkabfnlaa", sum := "531e499377372517160c33807400a68c7f0f0601fb79c26b6b81f8d9542f803d", func := "foolscap/foolscaplaw17.BracketObjects", spec := "bracketObjects", apart := false }
def BracketObjectsSaid : Prop := bracketObjectsRow.holds Try.pinned (OpenSpec.ofChange bracketObjectsSpec)

/-- ITS FALSE NEIGHBOUR: 'it returns false'. Refute it at one input. -/
def bracketObjectsWrong : ChangeSpec := { name := "bracketObjects", fn := fun _ => fun
  | [d1, d2, d3, d4, d5, d6] => { results := [.lit (.bool false)], args := [d1, d2, d3, d4, d5, d6] }
  | _ => none }
def BracketObjectsWrongFalsely : Prop := bracketObjectsRow.holds Try.pinned (OpenSpec.ofChange bracketObjectsWrong)

/-- 'foolscaplaw17.BracketAround': WHATEVER THE INPUT: true; the input reads as it did. -/
def bracketAroundSpec : ChangeSpec := { name := "bracketAround", fn := fun _ => fun
  | [d1, d2, d3, d4, d5] => { results := [.lit (.bool true)], args := [d1, d2, d3, d4, d5] }
  | _ => none }
def bracketAroundRow : OpenClaim := { program := "ytnaikdmkabfnlaa", sum := "531e499377372517160c33807400a68c7f0f0601fb79c26b6b81f8d9542f803d", func := "foolscap/foolscaplaw17.BracketAround", spec := "bracketAround", apart := false }
def BracketAroundSaid : Prop := bracketAroundRow.holds Try.pinned (OpenSpec.ofChange bracketAroundSpec)

/-- ITS FALSE NEIGHBOUR: 'it returns false'. Refute it at one input. -/
def bracketAroundWrong : ChangeSpec := { name := "bracketAround", fn := fun _ => fun
  | [d1, d2, d3, d4, d5] => { results := [.lit (.bool false)], args := [d1, d2, d3, d4, d5] }
  | _ => none }
def BracketAroundWrongFalsely : Prop := bracketAroundRow.holds Try.pinned (OpenSpec.ofChange bracketAroundWrong)

/-- 'foolscaplaw17.BracketDeep': WHATEVER THE INPUT: true; the input reads as it did. -/
def bracketDeepSpec : ChangeSpec := { name := "bracketDeep", fn := fun _ => fun
  | [d1, d2, d3, d4] => { results := [.lit (.bool true)], args := [d1, d2, d3, d4] }
  | _ => none }
def bracketDeepRow : OpenClaim := { program := "ytnaikdmkabfnlaa", sum := "531e499377372517160c33807400a68c7f0f0601fb79c26b6b81f8d9542f803d", func := "foolscap/foolscaplaw17.BracketDeep", spec := "bracketDeep", apart := false }
def BracketDeepSaid : Prop := bracketDeepRow.holds Try.pinned (OpenSpec.ofChange bracketDeepSpec)

/-- ITS FALSE NEIGHBOUR: 'it returns false'. Refute it at one input. -/
def bracketDeepWrong : ChangeSpec := { name := "bracketDeep", fn := fun _ => fun
  | [d1, d2, d3, d4] => { results := [.lit (.bool false)], args := [d1, d2, d3, d4] }
  | _ => none }
def BracketDeepWrongFalsely : Prop := bracketDeepRow.holds Try.pinned (OpenSpec.ofChange bracketDeepWrong)

/- THE SECOND FORM. 'bulk': how many values and letters a reading holds, each counted each time it is reached (what is shared counts as often as it is met; a slice's spare places count too). A statement '..UptoSaid' is the law's where the arguments, and the package variables that the reading takes, are together of bulk at most 1048576: NARROWER than '..Said'. Prove '..Said' where nothing that the law and all that it calls make is longer than what came in: it says more and counts as full. Else prove '..UptoSaid'. A law counts once. -/
mutual
def uptoBulk {H : Type} : DataW H → Nat
  | .lit (.string bytes) => bytes.length + 1
  | .lit _ => 1
  | .nil => 1
  | .ptr d => uptoBulk d + 1
  | .slice elems spare => uptoBulkAll elems + uptoBulkAll spare + 1
  | .agg parts => uptoBulkAll parts + 1
  | .iface _ d => uptoBulk d + 1
  | .map entries => uptoBulkEntries entries + 1
  | .held _ => 1
def uptoBulkAll {H : Type} : List (DataW H) → Nat
  | [] => 0
  | d :: r => uptoBulk d + uptoBulkAll r
def uptoBulkEntries {H : Type} : List (Lit × DataW H) → Nat
  | [] => 0
  | x :: r => uptoBulkEntry x + uptoBulkEntries r
def uptoBulkEntry {H : Type} : Lit × DataW H → Nat
  | (.string bytes, d) => bytes.length + uptoBulk d + 1
  | (_, d) => uptoBulk d + 1
 end
def uptoSmall : (H : Type) → List (DataW H) → Bool := fun _ ds => decide (uptoBulkAll ds ≤ 1048576)
def OpenSpec.upto (s : _root_.Go.ChangeSpec) : _root_.Go.OpenSpec := { _root_.Go.OpenSpec.ofChange s with cond := some uptoSmall }

/-- 'foolscaplaw6.SpanParts', WHERE WHAT IT READS IS OF BULK AT MOST 1048576: true; the input reads as it did. -/
def spanPartsUptoRow : OpenClaim := { program := "ytnaikdmkabfnlaa", sum := "531e499377372517160c33807400a68c7f0f0601fb79c26b6b81f8d9542f803d", func := "foolscap/foolscaplaw6.SpanParts", spec := "spanParts", apart := false, narrowed := true }
def SpanPartsUptoSaid : Prop := spanPartsUptoRow.holds Try.pinned (OpenSpec.upto spanPartsSpec)

/-- 'foolscaplaw6.SpanCells', WHERE WHAT IT READS IS OF BULK AT MOST 1048576: true; the input reads as it did. -/
def spanCellsUptoRow : OpenClaim := { program := "ytnaikdmkabfnlaa", sum := "531e499377372517160c33807400a68c7f0f0601fb79c26b6b81f8d9542f803d", func := "foolscap/foolscaplaw6.SpanCells", spec := "spanCells", unfollowed := true, recurses := true, apart := false, narrowed := true }
def SpanCellsUptoSaid : Prop := spanCellsUptoRow.holds Try.pinned (OpenSpec.upto spanCellsSpec)

/-- 'foolscaplaw16.QuotePairs', WHERE WHAT IT READS IS OF BULK AT MOST 1048576: true; the input reads as it did. -/
def quotePairsUptoRow : OpenClaim := { program := "ytnaikdmkabfnlaa", sum := "531e499377372517160c33807400a68c7f0f0601fb79c26b6b81f8d9542f803d", func := "foolscap/foolscaplaw16.QuotePairs", spec := "quotePairs", unfollowed := true, recurses := true, apart := false, narrowed := true }
def QuotePairsUptoSaid : Prop := quotePairsUptoRow.holds Try.pinned (OpenSpec.upto quotePairsSpec)

/-- 'foolscaplaw16.QuoteObjects', WHERE WHAT IT READS IS OF BULK AT MOST 1048576: true; the input reads as it did. -/
def quoteObjectsUptoRow : OpenClaim := { program := "ytnaikdmkabfnlaa", sum := "531e499377372517160c33807400a68c7f0f0601fb79c26b6b81f8d9542f803d", func := "foolscap/foolscaplaw16.QuoteObjects", spec := "quoteObjects", unfollowed := true, recurses := true, apart := false, narrowed := true }
def QuoteObjectsUptoSaid : Prop := quoteObjectsUptoRow.holds Try.pinned (OpenSpec.upto quoteObjectsSpec)

/-- 'foolscaplaw16.QuoteInside', WHERE WHAT IT READS IS OF BULK AT MOST 1048576: true; the input reads as it did. -/
def quoteInsideUptoRow : OpenClaim := { program := "ytnaikdmkabfnlaa", sum := "531e499377372517160c33807400a68c7f0f0601fb79c26b6b81f8d9542f803d", func := "foolscap/foolscaplaw16.QuoteInside", spec := "quoteInside", unfollowed := true, recurses := true, apart := false, narrowed := true }
def QuoteInsideUptoSaid : Prop := quoteInsideUptoRow.holds Try.pinned (OpenSpec.upto quoteInsideSpec)

/-- 'foolscaplaw15.WordRuns', WHERE WHAT IT READS IS OF BULK AT MOST 1048576: true; the input reads as it did. -/
def wordRunsUptoRow : OpenClaim := { program := "ytnaikdmkabfnlaa", sum := "531e499377372517160c33807400a68c7f0f0601fb79c26b6b81f8d9542f803d", func := "foolscap/foolscaplaw15.WordRuns", spec := "wordRuns", unfollowed := true, recurses := true, apart := false, narrowed := true }
def WordRunsUptoSaid : Prop := wordRunsUptoRow.holds Try.pinned (OpenSpec.upto wordRunsSpec)

/-- 'foolscaplaw15.WordObjects', WHERE WHAT IT READS IS OF BULK AT MOST 1048576: true; the input reads as it did. -/
def wordObjectsUptoRow : OpenClaim := { program := "ytnaikdmkabfnlaa", sum := "531e499377372517160c33807400a68c7f0f0601fb79c26b6b81f8d9542f803d", func := "foolscap/foolscaplaw15.WordObjects", spec := "wordObjects", unfollowed := true, recurses := true, apart := false, narrowed := true }
def WordObjectsUptoSaid : Prop := wordObjectsUptoRow.holds Try.pinned (OpenSpec.upto wordObjectsSpec)

/-- 'foolscaplaw15.WordCounts', WHERE WHAT IT READS IS OF BULK AT MOST 1048576: true; the input reads as it did. -/
def wordCountsUptoRow : OpenClaim := { program := "ytnaikdmkabfnlaa", sum := "531e499377372517160c33807400a68c7f0f0601fb79c26b6b81f8d9542f803d", func := "foolscap/foolscaplaw15.WordCounts", spec := "wordCounts", unfollowed := true, recurses := true, apart := false, narrowed := true }
def WordCountsUptoSaid : Prop := wordCountsUptoRow.holds Try.pinned (OpenSpec.upto wordCountsSpec)

/-- 'foolscaplaw15.WordAround', WHERE WHAT IT READS IS OF BULK AT MOST 1048576: true; the input reads as it did. -/
def wordAroundUptoRow : OpenClaim := { program := "ytnaikdmkabfnlaa", sum := "531e499377372517160c33807400a68c7f0f0601fb79c26b6b81f8d9542f803d", func := "foolscap/foolscaplaw15.WordAround", spec := "wordAround", unfollowed := true, recurses := true, apart := false, narrowed := true }
def WordAroundUptoSaid : Prop := wordAroundUptoRow.holds Try.pinned (OpenSpec.upto wordAroundSpec)

/-- 'foolscaplaw11.PairMatch', WHERE WHAT IT READS IS OF BULK AT MOST 1048576: true; the input reads as it did. -/
def pairMatchUptoRow : OpenClaim := { program := "ytnaikdmkabfnlaa", sum := "531e499377372517160c33807400a68c7f0f0601fb79c26b6b81f8d9542f803d", func := "foolscap/foolscaplaw11.PairMatch", spec := "pairMatch", apart := false, narrowed := true }
def PairMatchUptoSaid : Prop := pairMatchUptoRow.holds Try.pinned (OpenSpec.upto pairMatchSpec)

/-- 'foolscaplaw11.PairBack', WHERE WHAT IT READS IS OF BULK AT MOST 1048576: true; the input reads as it did. -/
def pairBackUptoRow : OpenClaim := { program := "ytnaikdmkabfnlaa", sum := "531e499377372517160c33807400a68c7f0f0601fb79c26b6b81f8d9542f803d", func := "foolscap/foolscaplaw11.PairBack", spec := "pairBack", apart := false, narrowed := true }
def PairBackUptoSaid : Prop := pairBackUptoRow.holds Try.pinned (OpenSpec.upto pairBackSpec)

/-- 'foolscaplaw11.PairEnclosing', WHERE WHAT IT READS IS OF BULK AT MOST 1048576: true; the input reads as it did. -/
def pairEnclosingUptoRow : OpenClaim := { program := "ytnaikdmkabfnlaa", sum := "531e499377372517160c33807400a68c7f0f0601fb79c26b6b81f8d9542f803d", func := "foolscap/foolscaplaw11.PairEnclosing", spec := "pairEnclosing", apart := false, narrowed := true }
def PairEnclosingUptoSaid : Prop := pairEnclosingUptoRow.holds Try.pinned (OpenSpec.upto pairEnclosingSpec)

/-- 'foolscaplaw11.PairDeep', WHERE WHAT IT READS IS OF BULK AT MOST 1048576: true; the input reads as it did. -/
def pairDeepUptoRow : OpenClaim := { program := "ytnaikdmkabfnlaa", sum := "531e499377372517160c33807400a68c7f0f0601fb79c26b6b81f8d9542f803d", func := "foolscap/foolscaplaw11.PairDeep", spec := "pairDeep", apart := false, narrowed := true }
def PairDeepUptoSaid : Prop := pairDeepUptoRow.holds Try.pinned (OpenSpec.upto pairDeepSpec)

/-- 'foolscaplaw17.BracketObjects', WHERE WHAT IT READS IS OF BULK AT MOST 1048576: true; the input reads as it did. -/
def bracketObjectsUptoRow : OpenClaim := { program := "ytnaikdmkabfnlaa", sum := "531e499377372517160c33807400a68c7f0f0601fb79c26b6b81f8d9542f803d", func := "foolscap/foolscaplaw17.BracketObjects", spec := "bracketObjects", apart := false, narrowed := true }
def BracketObjectsUptoSaid : Prop := bracketObjectsUptoRow.holds Try.pinned (OpenSpec.upto bracketObjectsSpec)

/-- 'foolscaplaw17.BracketAround', WHERE WHAT IT READS IS OF BULK AT MOST 1048576: true; the input reads as it did. -/
def bracketAroundUptoRow : OpenClaim := { program := "ytnaikdmkabfnlaa", sum := "531e499377372517160c33807400a68c7f0f0601fb79c26b6b81f8d9542f803d", func := "foolscap/foolscaplaw17.BracketAround", spec := "bracketAround", apart := false, narrowed := true }
def BracketAroundUptoSaid : Prop := bracketAroundUptoRow.holds Try.pinned (OpenSpec.upto bracketAroundSpec)

/-- 'foolscaplaw17.BracketDeep', WHERE WHAT IT READS IS OF BULK AT MOST 1048576: true; the input reads as it did. -/
def bracketDeepUptoRow : OpenClaim := { program := "ytnaikdmkabfnlaa", sum := "531e499377372517160c33807400a68c7f0f0601fb79c26b6b81f8d9542f803d", func := "foolscap/foolscaplaw17.BracketDeep", spec := "bracketDeep", apart := false, narrowed := true }
def BracketDeepUptoSaid : Prop := bracketDeepUptoRow.holds Try.pinned (OpenSpec.upto bracketDeepSpec)

end Rows
end Go.Proofs.Ytnaikdmkabfnlaa
