/-
  No cell of these rows narrows 'for every input' (looked for: loops, veiled, ifaces, maps, wideKeys, modest, calm, conditions, laid).
  DERIVED. THE GIVEN ROWS OF THIS SEAT. 10 by the template 'for every input the law returns true; each argument reads behind the call as it read before'; 0 by the template 'total and deterministic' (their statements: YtljbdmmidajmdaaTotals.lean).
  GIVEN WITH THE SEED: the statements are not yours to turn. If you find one false, say at which input.
  Laid BY PROGRAM, IN A SANDBOX (cutbox-rows.mjs): the forced cells as the released guide's own fill.sh prints them over the translation 96bdf301d369988e… (all of the seat's roots in one cut). By AI agents, Wed Nov 11 2026. No macro, syntax, notation, axiom, sorry.
-/
import Derived.Test.YtljbdmmidajmdaaChecked
import GoSem.Claim
import GoSem.ClaimJoined
import GoSem.ClaimMapViews
import Derived.JoinedTies
import Derived.KernelRfl
namespace Go.Proofs.Ytljbdmmidajmdaa
/- THE CELL 'sum', in the pinned program and in every row, IS THE sha256 OF THE DUMP (.gsa) THAT YtljbdmmidajmdaaProg.lean LOADS. Nothing in Lean hashes anything: it is a label: what it is worth is what the hold of that sum in a sandbox is worth. -/
noncomputable def Try.pinned : Pinned := { name := "ytljbdmmidajmdaa", sum := "96bdf301d369988e3aac602a26eb19fd363e1e0744a22e3b12bf9df139a4b66a", checked := Try.checked }
namespace Rows
def none {H : Type} : Left H := { results := [], args := [] }

/-- 'boomeranglaw5.PagesFull': WHATEVER THE INPUT: true; the input reads as it did. -/
def pagesFullSpec : ChangeSpec := { name := "pagesFull", fn := fun _ => fun
  | [d1, d2] => { results := [.lit (.bool true)], args := [d1, d2] }
  | _ => none }
def pagesFullRow : OpenClaim := { program := "ytljbdmmidajmdaa", sum := "96bdf301d369988e3aac602a26eb19fd363e1e0744a22e3b12bf9df139a4b66a", func := "boomerang/boomeranglaw5.PagesFull", spec := "pagesFull", apart := false }
def PagesFullSaid : Prop := pagesFullRow.holds Try.pinned (OpenSpec.ofChange pagesFullSpec)

/-- ITS FALSE NEIGHBOUR: 'it returns false'. Refute it at one input. -/
def pagesFullWrong : ChangeSpec := { name := "pagesFull", fn := fun _ => fun
  | [d1, d2] => { results := [.lit (.bool false)], args := [d1, d2] }
  | _ => none }
def PagesFullWrongFalsely : Prop := pagesFullRow.holds Try.pinned (OpenSpec.ofChange pagesFullWrong)

/-- 'boomeranglaw5.PagesChains': WHATEVER THE INPUT: true; the input reads as it did. -/
def pagesChainsSpec : ChangeSpec := { name := "pagesChains", fn := fun _ => fun
  | [d1, d2] => { results := [.lit (.bool true)], args := [d1, d2] }
  | _ => none }
def pagesChainsRow : OpenClaim := { program := "ytljbdmmidajmdaa", sum := "96bdf301d369988e3aac602a26eb19fd363e1e0744a22e3b12bf9df139a4b66a", func := "boomerang/boomeranglaw5.PagesChains", spec := "pagesChains", apart := false }
def PagesChainsSaid : Prop := pagesChainsRow.holds Try.pinned (OpenSpec.ofChange pagesChainsSpec)

/-- ITS FALSE NEIGHBOUR: 'it returns false'. Refute it at one input. -/
def pagesChainsWrong : ChangeSpec := { name := "pagesChains", fn := fun _ => fun
  | [d1, d2] => { results := [.lit (.bool false)], args := [d1, d2] }
  | _ => none }
def PagesChainsWrongFalsely : Prop := pagesChainsRow.holds Try.pinned (OpenSpec.ofChange pagesChainsWrong)

/-- 'boomeranglaw5.PagesAll': WHATEVER THE INPUT: true; the input reads as it did. -/
def pagesAllSpec : ChangeSpec := { name := "pagesAll", fn := fun _ => fun
  | [d] => { results := [.lit (.bool true)], args := [d] }
  | _ => none }
def pagesAllRow : OpenClaim := { program := "ytljbdmmidajmdaa", sum := "96bdf301d369988e3aac602a26eb19fd363e1e0744a22e3b12bf9df139a4b66a", func := "boomerang/boomeranglaw5.PagesAll", spec := "pagesAll", apart := false }
def PagesAllSaid : Prop := pagesAllRow.holds Try.pinned (OpenSpec.ofChange pagesAllSpec)

/-- ITS FALSE NEIGHBOUR: 'it returns false'. Refute it at one input. -/
def pagesAllWrong : ChangeSpec := { name := "pagesAll", fn := fun _ => fun
  | [d] => { results := [.lit (.bool false)], args := [d] }
  | _ => none }
def PagesAllWrongFalsely : Prop := pagesAllRow.holds Try.pinned (OpenSpec.ofChange pagesAllWrong)

/-- 'boomeranglaw5.PagesMarks': WHATEVER THE INPUT: true; the input reads as it did. -/
def pagesMarksSpec : ChangeSpec := { name := "pagesMarks", fn := fun _ => fun
  | [d1, d2] => { results := [.lit (.bool true)], args := [d1, d2] }
  | _ => none }
def pagesMarksRow : OpenClaim := { program := "ytljbdmmidajmdaa", sum := "96bdf301d369988e3aac602a26eb19fd363e1e0744a22e3b12bf9df139a4b66a", func := "boomerang/boomeranglaw5.PagesMarks", spec := "pagesMarks", apart := false }
def PagesMarksSaid : Prop := pagesMarksRow.holds Try.pinned (OpenSpec.ofChange pagesMarksSpec)

/-- ITS FALSE NEIGHBOUR: 'it returns false'. Refute it at one input. -/
def pagesMarksWrong : ChangeSpec := { name := "pagesMarks", fn := fun _ => fun
  | [d1, d2] => { results := [.lit (.bool false)], args := [d1, d2] }
  | _ => none }
def PagesMarksWrongFalsely : Prop := pagesMarksRow.holds Try.pinned (OpenSpec.ofChange pagesMarksWrong)

/-- 'boomeranglaw5.PagesAlone': WHATEVER THE INPUT: true; the input reads as it did. -/
def pagesAloneSpec : ChangeSpec := { name := "pagesAlone", fn := fun _ => fun
  | [d1, d2] => { results := [.lit (.bool true)], args := [d1, d2] }
  | _ => none }
def pagesAloneRow : OpenClaim := { program := "ytljbdmmidajmdaa", sum := "96bdf301d369988e3aac602a26eb19fd363e1e0744a22e3b12bf9df139a4b66a", func := "boomerang/boomeranglaw5.PagesAlone", spec := "pagesAlone", apart := false }
def PagesAloneSaid : Prop := pagesAloneRow.holds Try.pinned (OpenSpec.ofChange pagesAloneSpec)

/-- ITS FALSE NEIGHBOUR: 'it returns false'. Refute it at one input. -/
def pagesAloneWrong : ChangeSpec := { name := "pagesAlone", fn := fun _ => fun
  | [d1, d2] => { results := [.lit (.bool false)], args := [d1, d2] }
  | _ => none }
def PagesAloneWrongFalsely : Prop := pagesAloneRow.holds Try.pinned (OpenSpec.ofChange pagesAloneWrong)

/-- 'boomeranglaw6.HeapRows': WHATEVER THE INPUT: true; the input reads as it did. -/
def heapRowsSpec : ChangeSpec := { name := "heapRows", fn := fun _ => fun
  | [d1, d2, d3] => { results := [.lit (.bool true)], args := [d1, d2, d3] }
  | _ => none }
def heapRowsRow : OpenClaim := { program := "ytljbdmmidajmdaa", sum := "96bdf301d369988e3aac602a26eb19fd363e1e0744a22e3b12bf9df139a4b66a", func := "boomerang/boomeranglaw6.HeapRows", spec := "heapRows", unfollowed := true, recurses := true, apart := false }
def HeapRowsSaid : Prop := heapRowsRow.holds Try.pinned (OpenSpec.ofChange heapRowsSpec)

/-- ITS FALSE NEIGHBOUR: 'it returns false'. Refute it at one input. -/
def heapRowsWrong : ChangeSpec := { name := "heapRows", fn := fun _ => fun
  | [d1, d2, d3] => { results := [.lit (.bool false)], args := [d1, d2, d3] }
  | _ => none }
def HeapRowsWrongFalsely : Prop := heapRowsRow.holds Try.pinned (OpenSpec.ofChange heapRowsWrong)

/-- 'boomeranglaw6.HeapRuns': WHATEVER THE INPUT: true; the input reads as it did. -/
def heapRunsSpec : ChangeSpec := { name := "heapRuns", fn := fun _ => fun
  | [d1, d2, d3] => { results := [.lit (.bool true)], args := [d1, d2, d3] }
  | _ => none }
def heapRunsRow : OpenClaim := { program := "ytljbdmmidajmdaa", sum := "96bdf301d369988e3aac602a26eb19fd363e1e0744a22e3b12bf9df139a4b66a", func := "boomerang/boomeranglaw6.HeapRuns", spec := "heapRuns", apart := false }
def HeapRunsSaid : Prop := heapRunsRow.holds Try.pinned (OpenSpec.ofChange heapRunsSpec)

/-- ITS FALSE NEIGHBOUR: 'it returns false'. Refute it at one input. -/
def heapRunsWrong : ChangeSpec := { name := "heapRuns", fn := fun _ => fun
  | [d1, d2, d3] => { results := [.lit (.bool false)], args := [d1, d2, d3] }
  | _ => none }
def HeapRunsWrongFalsely : Prop := heapRunsRow.holds Try.pinned (OpenSpec.ofChange heapRunsWrong)

/-- 'boomeranglaw6.HeapRings': WHATEVER THE INPUT: true; the input reads as it did. -/
def heapRingsSpec : ChangeSpec := { name := "heapRings", fn := fun _ => fun
  | [d1, d2] => { results := [.lit (.bool true)], args := [d1, d2] }
  | _ => none }
def heapRingsRow : OpenClaim := { program := "ytljbdmmidajmdaa", sum := "96bdf301d369988e3aac602a26eb19fd363e1e0744a22e3b12bf9df139a4b66a", func := "boomerang/boomeranglaw6.HeapRings", spec := "heapRings", unfollowed := true, recurses := true, apart := false }
def HeapRingsSaid : Prop := heapRingsRow.holds Try.pinned (OpenSpec.ofChange heapRingsSpec)

/-- ITS FALSE NEIGHBOUR: 'it returns false'. Refute it at one input. -/
def heapRingsWrong : ChangeSpec := { name := "heapRings", fn := fun _ => fun
  | [d1, d2] => { results := [.lit (.bool false)], args := [d1, d2] }
  | _ => none }
def HeapRingsWrongFalsely : Prop := heapRingsRow.holds Try.pinned (OpenSpec.ofChange heapRingsWrong)

/-- 'boomeranglaw6.HeapMarks': WHATEVER THE INPUT: true; the input reads as it did. -/
def heapMarksSpec : ChangeSpec := { name := "heapMarks", fn := fun _ => fun
  | [d1, d2] => { results := [.lit (.bool true)], args := [d1, d2] }
  | _ => none }
def heapMarksRow : OpenClaim := { program := "ytljbdmmidajmdaa", sum := "96bdf301d369988e3aac602a26eb19fd363e1e0744a22e3b12bf9df139a4b66a", func := "boomerang/boomeranglaw6.HeapMarks", spec := "heapMarks", apart := false }
def HeapMarksSaid : Prop := heapMarksRow.holds Try.pinned (OpenSpec.ofChange heapMarksSpec)

/-- ITS FALSE NEIGHBOUR: 'it returns false'. Refute it at one input. -/
def heapMarksWrong : ChangeSpec := { name := "heapMarks", fn := fun _ => fun
  | [d1, d2] => { results := [.lit (.bool false)], args := [d1, d2] }
  | _ => none }
def HeapMarksWrongFalsely : Prop := heapMarksRow.holds Try.pinned (OpenSpec.ofChange heapMarksWrong)

/-- 'boomeranglaw6.HeapReach': WHATEVER THE INPUT: true; the input reads as it did. -/
def heapReachSpec : ChangeSpec := { name := "heapReach", fn := fun _ => fun
  | [d1, d2] => { results := [.lit (.bool true)], args := [d1, d2] }
  | _ => none }
def heapReachRow : OpenClaim := { program := "ytljbdmmidajmdaa", sum := "96bdf301d369988e3aac602a26eb19fd363e1e0744a22e3b12bf9df139a4b66a", func := "boomerang/boomeranglaw6.HeapReach", spec := "heapReach", unfollowed := true, recurses := true, apart := false }
def HeapReachSaid : Prop := heapReachRow.holds Try.pinned (OpenSpec.ofChange heapReachSpec)

/-- ITS FALSE NEIGHBOUR: 'it returns false'. Refute it at one input. -/
def heapReachWrong : ChangeSpec := { name := "heapReach", fn := fun _ => fun
  | [d1, d2] => { results := [.lit (.bool false)], args := [d1, d2] }
  | _ => none }
def HeapReachWrongFalsely : Prop := heapReachRow.holds Try.pinned (OpenSpec.ofChange heapReachWrong)

/- THE SECOND FORM. 'bulk': how many values and letters a reading holds, each counted each time it is reached (what is shared counts as often as it is met; a slice's spare places count too). A statement '..UptoSaid' is the law's where the arguments, and the package variables that the reading takes, are together of bulk at most 1048576: NARROWER than '..Said'. Prove '..Said' where nothing that the law and all that it calls make is longer than what came in: it says more and counts as full. Else prove '..UptoSaid'. A law counts once. -/
mutual
def uptoBulk {H : Type} : DataW H → Nat
  | .lit (.string bytes) => bytes.length + 1
  | .lit _ => 1
  | .nil => 1
  | .ptr d => uptoBulk d + 1
  | .slice elems spare => uptoBulkAll elems + uptoBulkAll spare + 1
  | .agg parts => uptoBulkAll parts + 1
  | .iface _ d => uptoBulk d + 1
  | .map entries => uptoBulkEntries entries + 1
  | .held _ => 1
def uptoBulkAll {H : Type} : List (DataW H) → Nat
  | [] => 0
  | d :: r => uptoBulk d + uptoBulkAll r
def uptoBulkEntries {H : Type} : List (Lit × DataW H) → Nat
  | [] => 0
  | x :: r => uptoBulkEntry x + uptoBulkEntries r
def uptoBulkEntry {H : Type} : Lit × DataW H → Nat
  | (.string bytes, d) => bytes.length + uptoBulk d + 1
  | (_, d) => uptoBulk d + 1
 end
def uptoSmall : (H : Type) → List (DataW H) → Bool := fun _ ds => decide (uptoBulkAll ds ≤ 1048576)
def OpenSpec.upto (s : _root_.Go.ChangeSpec) : _root_.Go.OpenSpec := { _root_.Go.OpenSpec.ofChange s with cond := some uptoSmall }

/-- 'boomeranglaw5.PagesFull', WHERE WHAT IT READS IS OF BULK AT MOST 1048576: true; the input reads as it did. -/
def pagesFullUptoRow : OpenClaim := { program := "ytljbdmmidajmdaa", sum := "96bdf301d369988e3aac602a26eb19fd363e1e0744a22e3b12bf9df139a4b66a", func := "boomerang/boomeranglaw5.PagesFull", spec := "pagesFull", apart := false, narrowed := true }
def PagesFullUptoSaid : Prop := pagesFullUptoRow.holds Try.pinned (OpenSpec.upto pagesFullSpec)

/-- 'boomeranglaw5.PagesChains', WHERE WHAT IT READS IS OF BULK AT MOST 1048576: true; the input reads as it did. -/
def pagesChainsUptoRow : OpenClaim := { program := "ytljbdmmidajmdaa", sum := "96bdf301d369988e3aac602a26eb19fd363e1e0744a22e3b12bf9df139a4b66a", func := "boomerang/boomeranglaw5.PagesChains", spec := "pagesChains", apart := false, narrowed := true }
def PagesChainsUptoSaid : Prop := pagesChainsUptoRow.holds Try.pinned (OpenSpec.upto pagesChainsSpec)

/-- 'boomeranglaw5.PagesAll', WHERE WHAT IT READS IS OF BULK AT MOST 1048576: true; the input reads as it did. -/
def pagesAllUptoRow : OpenClaim := { program := "ytljbdmmidajmdaa", sum := "96bdf301d369988e3aac602a26eb19fd363e1e0744a22e3b12bf9df139a4b66a", func := "boomerang/boomeranglaw5.PagesAll", spec := "pagesAll", apart := false, narrowed := true }
def PagesAllUptoSaid : Prop := pagesAllUptoRow.holds Try.pinned (OpenSpec.upto pagesAllSpec)

/-- 'boomeranglaw5.PagesMarks', WHERE WHAT IT READS IS OF BULK AT MOST 1048576: true; the input reads as it did. -/
def pagesMarksUptoRow : OpenClaim := { program := "ytljbdmmidajmdaa", sum := "96bdf301d369988e3aac602a26eb19fd363e1e0744a22e3b12bf9df139a4b66a", func := "boomerang/boomeranglaw5.PagesMarks", spec := "pagesMarks", apart := false, narrowed := true }
def PagesMarksUptoSaid : Prop := pagesMarksUptoRow.holds Try.pinned (OpenSpec.upto pagesMarksSpec)

/-- 'boomeranglaw5.PagesAlone', WHERE WHAT IT READS IS OF BULK AT MOST 1048576: true; the input reads as it did. -/
def pagesAloneUptoRow : OpenClaim := { program := "ytljbdmmidajmdaa", sum := "96bdf301d369988e3aac602a26eb19fd363e1e0744a22e3b12bf9df139a4b66a", func := "boomerang/boomeranglaw5.PagesAlone", spec := "pagesAlone", apart := false, narrowed := true }
def PagesAloneUptoSaid : Prop := pagesAloneUptoRow.holds Try.pinned (OpenSpec.upto pagesAloneSpec)

/-- 'boomeranglaw6.HeapRows', WHERE WHAT IT READS IS OF BULK AT MOST 1048576: true; the input reads as it did. -/
def heapRowsUptoRow : OpenClaim := { program := "ytljbdmmidajmdaa", sum := "96bdf301d369988e3aac602a26eb19fd363e1e0744a22e3b12bf9df139a4b66a", func := "boomerang/boomeranglaw6.HeapRows", spec := "heapRows", unfollowed := true, recurses := true, apart := false, narrowed := true }
def HeapRowsUptoSaid : Prop := heapRowsUptoRow.holds Try.pinned (OpenSpec.upto heapRowsSpec)

/-- 'boomeranglaw6.HeapRuns', WHERE WHAT IT READS IS OF BULK AT MOST 1048576: true; the input reads as it did. -/
def heapRunsUptoRow : OpenClaim := { program := "ytljbdmmidajmdaa", sum := "96bdf301d369988e3aac602a26eb19fd363e1e0744a22e3b12bf9df139a4b66a", func := "boomerang/boomeranglaw6.HeapRuns", spec := "heapRuns", apart := false, narrowed := true }
def HeapRunsUptoSaid : Prop := heapRunsUptoRow.holds Try.pinned (OpenSpec.upto heapRunsSpec)

/-- 'boomeranglaw6.HeapRings', WHERE WHAT IT READS IS OF BULK AT MOST 1048576: true; the input reads as it did. -/
def heapRingsUptoRow : OpenClaim := { program := "ytljbdmmidajmdaa", sum := "96bdf301d369988e3aac602a26eb19fd363e1e0744a22e3b12bf9df139a4b66a", func := "boomerang/boomeranglaw6.HeapRings", spec := "heapRings", unfollowed := true, recurses := true, apart := false, narrowed := true }
def HeapRingsUptoSaid : Prop := heapRingsUptoRow.holds Try.pinned (OpenSpec.upto heapRingsSpec)

/-- 'boomeranglaw6.HeapMarks', WHERE WHAT IT READS IS OF BULK AT MOST 1048576: true; the input reads as it did. -/
def heapMarksUptoRow : OpenClaim := { program := "ytljbdmmidajmdaa", sum := "96bdf301d369988e3aac602a26eb19fd363e1e0744a22e3b12bf9df139a4b66a", func := "boomerang/boomeranglaw6.HeapMarks", spec := "heapMarks", apart := false, narrowed := true }
def HeapMarksUptoSaid : Prop := heapMarksUptoRow.holds Try.pinned (OpenSpec.upto heapMarksSpec)

/-- 'boomeranglaw6.HeapReach', WHERE WHAT IT READS IS OF BULK AT MOST 1048576: true; the input reads as it did. -/
def heapReachUptoRow : OpenClaim := { program := "ytljbdmmidajmdaa", sum := "96bdf301d369988e3aac602a26eb19fd363e1e0744a22e3b12bf9df139a4b66a", func := "boomerang/boomeranglaw6.HeapReach", spec := "heapReach", unfollowed := true, recurses := true, apart := false, narrowed := true }
def HeapReachUptoSaid : Prop := heapReachUptoRow.holds Try.pinned (OpenSpec.upto heapReachSpec)

end Rows
end Go.Proofs.Ytljbdmmidajmdaa
