/-
  No cell of these rows narrows 'for every input' (looked for: loops, veiled, ifaces, maps, wideKeys, modest, calm, conditions, laid).
  DERIVED. THE GIVEN ROWS OF THIS SEAT. 10 by the template 'for every input the law returns true; each argument reads behind the call as it read before'; 0 by the template 'total and deterministic' (their statements: YtdgpblhmfkpblaaTotals.lean).
  GIVEN WITH THE SEED: the statements are not yours to turn. If you find one false, say at which input.
  Laid BY PROGRAM, IN A SANDBOX (cutbox-rows.mjs): the forced cells as the released guide's own fill.sh prints them over the translation e188f80c068243f9… (all of the seat's roots in one cut). By AI agents, Wed Nov 11 2026. No macro, syntax, notation, axiom, sorry.
-/
import Derived.Test.YtdgpblhmfkpblaaChecked
import GoSem.Claim
import GoSem.ClaimJoined
import GoSem.ClaimMapViews
import Derived.JoinedTies
import Derived.KernelRfl
namespace Go.Proofs.Ytdgpblhmfkpblaa
/- THE CELL 'sum', in the pinned program and in every row, IS THE sha256 OF THE DUMP (.gsa) THAT YtdgpblhmfkpblaaProg.lean LOADS. Nothing in Lean hashes anything: it is a label: what it is worth is what the hold of that sum in a sandbox is worth. -/
noncomputable def Try.pinned : Pinned := { name := "ytdgpblhmfkpblaa", sum := "e188f80c068243f9fb6249aa293cf232aa1debdb1e6f1e08ae66c0acb2c4ee63", checked := Try.checked }
namespace Rows
def none {H : Type} : Left H := { results := [], args := [] }

/-- 'boomeranglaw16.StateEnters': WHATEVER THE INPUT: true; the input reads as it did. -/
def stateEntersSpec : ChangeSpec := { name := "stateEnters", fn := fun _ => fun
  | [d1, d2, d3, d4] => { results := [.lit (.bool true)], args := [d1, d2, d3, d4] }
  | _ => none }
def stateEntersRow : OpenClaim := { program := "ytdgpblhmfkpblaa", sum := "e188f80c068243f9fb6249aa293cf232aa1debdb1e6f1e08ae66c0acb2c4ee63", func := "boomerang/boomeranglaw16.StateEnters", spec := "stateEnters", unfollowed := true, recurses := true, apart := false }
def StateEntersSaid : Prop := stateEntersRow.holds Try.pinned (OpenSpec.ofChange stateEntersSpec)

/-- ITS FALSE NEIGHBOUR: 'it returns false'. Refute it at one input. -/
def stateEntersWrong : ChangeSpec := { name := "stateEnters", fn := fun _ => fun
  | [d1, d2, d3, d4] => { results := [.lit (.bool false)], args := [d1, d2, d3, d4] }
  | _ => none }
def StateEntersWrongFalsely : Prop := stateEntersRow.holds Try.pinned (OpenSpec.ofChange stateEntersWrong)

/-- 'boomeranglaw16.StateThrows': WHATEVER THE INPUT: true; the input reads as it did. -/
def stateThrowsSpec : ChangeSpec := { name := "stateThrows", fn := fun _ => fun
  | [d1, d2, d3, d4] => { results := [.lit (.bool true)], args := [d1, d2, d3, d4] }
  | _ => none }
def stateThrowsRow : OpenClaim := { program := "ytdgpblhmfkpblaa", sum := "e188f80c068243f9fb6249aa293cf232aa1debdb1e6f1e08ae66c0acb2c4ee63", func := "boomerang/boomeranglaw16.StateThrows", spec := "stateThrows", unfollowed := true, recurses := true, apart := false }
def StateThrowsSaid : Prop := stateThrowsRow.holds Try.pinned (OpenSpec.ofChange stateThrowsSpec)

/-- ITS FALSE NEIGHBOUR: 'it returns false'. Refute it at one input. -/
def stateThrowsWrong : ChangeSpec := { name := "stateThrows", fn := fun _ => fun
  | [d1, d2, d3, d4] => { results := [.lit (.bool false)], args := [d1, d2, d3, d4] }
  | _ => none }
def StateThrowsWrongFalsely : Prop := stateThrowsRow.holds Try.pinned (OpenSpec.ofChange stateThrowsWrong)

/-- 'boomeranglaw16.StateFull': WHATEVER THE INPUT: true; the input reads as it did. -/
def stateFullSpec : ChangeSpec := { name := "stateFull", fn := fun _ => fun
  | [d1, d2] => { results := [.lit (.bool true)], args := [d1, d2] }
  | _ => none }
def stateFullRow : OpenClaim := { program := "ytdgpblhmfkpblaa", sum := "e188f80c068243f9fb6249aa293cf232aa1debdb1e6f1e08ae66c0acb2c4ee63", func := "boomerang/boomeranglaw16.StateFull", spec := "stateFull", unfollowed := true, recurses := true, apart := false }
def StateFullSaid : Prop := stateFullRow.holds Try.pinned (OpenSpec.ofChange stateFullSpec)

/-- ITS FALSE NEIGHBOUR: 'it returns false'. Refute it at one input. -/
def stateFullWrong : ChangeSpec := { name := "stateFull", fn := fun _ => fun
  | [d1, d2] => { results := [.lit (.bool false)], args := [d1, d2] }
  | _ => none }
def StateFullWrongFalsely : Prop := stateFullRow.holds Try.pinned (OpenSpec.ofChange stateFullWrong)

/-- 'boomeranglaw16.StateRuns': WHATEVER THE INPUT: true; the input reads as it did. -/
def stateRunsSpec : ChangeSpec := { name := "stateRuns", fn := fun _ => fun
  | [d1, d2] => { results := [.lit (.bool true)], args := [d1, d2] }
  | _ => none }
def stateRunsRow : OpenClaim := { program := "ytdgpblhmfkpblaa", sum := "e188f80c068243f9fb6249aa293cf232aa1debdb1e6f1e08ae66c0acb2c4ee63", func := "boomerang/boomeranglaw16.StateRuns", spec := "stateRuns", unfollowed := true, recurses := true, apart := false }
def StateRunsSaid : Prop := stateRunsRow.holds Try.pinned (OpenSpec.ofChange stateRunsSpec)

/-- ITS FALSE NEIGHBOUR: 'it returns false'. Refute it at one input. -/
def stateRunsWrong : ChangeSpec := { name := "stateRuns", fn := fun _ => fun
  | [d1, d2] => { results := [.lit (.bool false)], args := [d1, d2] }
  | _ => none }
def StateRunsWrongFalsely : Prop := stateRunsRow.holds Try.pinned (OpenSpec.ofChange stateRunsWrong)

/-- 'boomeranglaw16.StateNone': WHATEVER THE INPUT: true; the input reads as it did. -/
def stateNoneSpec : ChangeSpec := { name := "stateNone", fn := fun _ => fun
  | [d] => { results := [.lit (.bool true)], args := [d] }
  | _ => none }
def stateNoneRow : OpenClaim := { program := "ytdgpblhmfkpblaa", sum := "e188f80c068243f9fb6249aa293cf232aa1debdb1e6f1e08ae66c0acb2c4ee63", func := "boomerang/boomeranglaw16.StateNone", spec := "stateNone", unfollowed := true, recurses := true, apart := false }
def StateNoneSaid : Prop := stateNoneRow.holds Try.pinned (OpenSpec.ofChange stateNoneSpec)

/-- ITS FALSE NEIGHBOUR: 'it returns false'. Refute it at one input. -/
def stateNoneWrong : ChangeSpec := { name := "stateNone", fn := fun _ => fun
  | [d] => { results := [.lit (.bool false)], args := [d] }
  | _ => none }
def StateNoneWrongFalsely : Prop := stateNoneRow.holds Try.pinned (OpenSpec.ofChange stateNoneWrong)

/-- 'boomeranglaw16.StateMarks': WHATEVER THE INPUT: true; the input reads as it did. -/
def stateMarksSpec : ChangeSpec := { name := "stateMarks", fn := fun _ => fun
  | [d1, d2, d3] => { results := [.lit (.bool true)], args := [d1, d2, d3] }
  | _ => none }
def stateMarksRow : OpenClaim := { program := "ytdgpblhmfkpblaa", sum := "e188f80c068243f9fb6249aa293cf232aa1debdb1e6f1e08ae66c0acb2c4ee63", func := "boomerang/boomeranglaw16.StateMarks", spec := "stateMarks", unfollowed := true, recurses := true, apart := false }
def StateMarksSaid : Prop := stateMarksRow.holds Try.pinned (OpenSpec.ofChange stateMarksSpec)

/-- ITS FALSE NEIGHBOUR: 'it returns false'. Refute it at one input. -/
def stateMarksWrong : ChangeSpec := { name := "stateMarks", fn := fun _ => fun
  | [d1, d2, d3] => { results := [.lit (.bool false)], args := [d1, d2, d3] }
  | _ => none }
def StateMarksWrongFalsely : Prop := stateMarksRow.holds Try.pinned (OpenSpec.ofChange stateMarksWrong)

/-- 'boomeranglaw18.PromiseAdopts': WHATEVER THE INPUT: true; the input reads as it did. -/
def promiseAdoptsSpec : ChangeSpec := { name := "promiseAdopts", fn := fun _ => fun
  | [d1, d2] => { results := [.lit (.bool true)], args := [d1, d2] }
  | _ => none }
def promiseAdoptsRow : OpenClaim := { program := "ytdgpblhmfkpblaa", sum := "e188f80c068243f9fb6249aa293cf232aa1debdb1e6f1e08ae66c0acb2c4ee63", func := "boomerang/boomeranglaw18.PromiseAdopts", spec := "promiseAdopts", apart := false }
def PromiseAdoptsSaid : Prop := promiseAdoptsRow.holds Try.pinned (OpenSpec.ofChange promiseAdoptsSpec)

/-- ITS FALSE NEIGHBOUR: 'it returns false'. Refute it at one input. -/
def promiseAdoptsWrong : ChangeSpec := { name := "promiseAdopts", fn := fun _ => fun
  | [d1, d2] => { results := [.lit (.bool false)], args := [d1, d2] }
  | _ => none }
def PromiseAdoptsWrongFalsely : Prop := promiseAdoptsRow.holds Try.pinned (OpenSpec.ofChange promiseAdoptsWrong)

/-- 'boomeranglaw18.PromiseWaits': WHATEVER THE INPUT: true; the input reads as it did. -/
def promiseWaitsSpec : ChangeSpec := { name := "promiseWaits", fn := fun _ => fun
  | [d1, d2] => { results := [.lit (.bool true)], args := [d1, d2] }
  | _ => none }
def promiseWaitsRow : OpenClaim := { program := "ytdgpblhmfkpblaa", sum := "e188f80c068243f9fb6249aa293cf232aa1debdb1e6f1e08ae66c0acb2c4ee63", func := "boomerang/boomeranglaw18.PromiseWaits", spec := "promiseWaits", apart := false }
def PromiseWaitsSaid : Prop := promiseWaitsRow.holds Try.pinned (OpenSpec.ofChange promiseWaitsSpec)

/-- ITS FALSE NEIGHBOUR: 'it returns false'. Refute it at one input. -/
def promiseWaitsWrong : ChangeSpec := { name := "promiseWaits", fn := fun _ => fun
  | [d1, d2] => { results := [.lit (.bool false)], args := [d1, d2] }
  | _ => none }
def PromiseWaitsWrongFalsely : Prop := promiseWaitsRow.holds Try.pinned (OpenSpec.ofChange promiseWaitsWrong)

/-- 'boomeranglaw18.PromiseOrder': WHATEVER THE INPUT: true; the input reads as it did. -/
def promiseOrderSpec : ChangeSpec := { name := "promiseOrder", fn := fun _ => fun
  | [d1, d2, d3, d4] => { results := [.lit (.bool true)], args := [d1, d2, d3, d4] }
  | _ => none }
def promiseOrderRow : OpenClaim := { program := "ytdgpblhmfkpblaa", sum := "e188f80c068243f9fb6249aa293cf232aa1debdb1e6f1e08ae66c0acb2c4ee63", func := "boomerang/boomeranglaw18.PromiseOrder", spec := "promiseOrder", apart := false }
def PromiseOrderSaid : Prop := promiseOrderRow.holds Try.pinned (OpenSpec.ofChange promiseOrderSpec)

/-- ITS FALSE NEIGHBOUR: 'it returns false'. Refute it at one input. -/
def promiseOrderWrong : ChangeSpec := { name := "promiseOrder", fn := fun _ => fun
  | [d1, d2, d3, d4] => { results := [.lit (.bool false)], args := [d1, d2, d3, d4] }
  | _ => none }
def PromiseOrderWrongFalsely : Prop := promiseOrderRow.holds Try.pinned (OpenSpec.ofChange promiseOrderWrong)

/-- 'boomeranglaw18.PromiseRuns': WHATEVER THE INPUT: true; the input reads as it did. -/
def promiseRunsSpec : ChangeSpec := { name := "promiseRuns", fn := fun _ => fun
  | [d] => { results := [.lit (.bool true)], args := [d] }
  | _ => none }
def promiseRunsRow : OpenClaim := { program := "ytdgpblhmfkpblaa", sum := "e188f80c068243f9fb6249aa293cf232aa1debdb1e6f1e08ae66c0acb2c4ee63", func := "boomerang/boomeranglaw18.PromiseRuns", spec := "promiseRuns", unfollowed := true, recurses := true, apart := false }
def PromiseRunsSaid : Prop := promiseRunsRow.holds Try.pinned (OpenSpec.ofChange promiseRunsSpec)

/-- ITS FALSE NEIGHBOUR: 'it returns false'. Refute it at one input. -/
def promiseRunsWrong : ChangeSpec := { name := "promiseRuns", fn := fun _ => fun
  | [d] => { results := [.lit (.bool false)], args := [d] }
  | _ => none }
def PromiseRunsWrongFalsely : Prop := promiseRunsRow.holds Try.pinned (OpenSpec.ofChange promiseRunsWrong)

/- THE SECOND FORM. 'bulk': how many values and letters a reading holds, each counted each time it is reached (what is shared counts as often as it is met; a slice's spare places count too). A statement '..UptoSaid' is the law's where the arguments, and the package variables that the reading takes, are together of bulk at most 1048576: NARROWER than '..Said'. Prove '..Said' where nothing that the law and all that it calls make is longer than what came in: it says more and counts as full. Else prove '..UptoSaid'. A law counts once. -/
mutual
def uptoBulk {H : Type} : DataW H → Nat
  | .lit (.string bytes) => bytes.length + 1
  | .lit _ => 1
  | .nil => 1
  | .ptr d => uptoBulk d + 1
  | .slice elems spare => uptoBulkAll elems + uptoBulkAll spare + 1
  | .agg parts => uptoBulkAll parts + 1
  | .iface _ d => uptoBulk d + 1
  | .map entries => uptoBulkEntries entries + 1
  | .held _ => 1
def uptoBulkAll {H : Type} : List (DataW H) → Nat
  | [] => 0
  | d :: r => uptoBulk d + uptoBulkAll r
def uptoBulkEntries {H : Type} : List (Lit × DataW H) → Nat
  | [] => 0
  | x :: r => uptoBulkEntry x + uptoBulkEntries r
def uptoBulkEntry {H : Type} : Lit × DataW H → Nat
  | (.string bytes, d) => bytes.length + uptoBulk d + 1
  | (_, d) => uptoBulk d + 1
 end
def uptoSmall : (H : Type) → List (DataW H) → Bool := fun _ ds => decide (uptoBulkAll ds ≤ 1048576)
def OpenSpec.upto (s : _root_.Go.ChangeSpec) : _root_.Go.OpenSpec := { _root_.Go.OpenSpec.ofChange s with cond := some uptoSmall }

/-- 'boomeranglaw16.StateEnters', WHERE WHAT IT READS IS OF BULK AT MOST 1048576: true; the input reads as it did. -/
def stateEntersUptoRow : OpenClaim := { program := "ytdgpblhmfkpblaa", sum := "e188f80c068243f9fb6249aa293cf232aa1debdb1e6f1e08ae66c0acb2c4ee63", func := "boomerang/boomeranglaw16.StateEnters", spec := "stateEnters", unfollowed := true, recurses := true, apart := false, narrowed := true }
def StateEntersUptoSaid : Prop := stateEntersUptoRow.holds Try.pinned (OpenSpec.upto stateEntersSpec)

/-- 'boomeranglaw16.StateThrows', WHERE WHAT IT READS IS OF BULK AT MOST 1048576: true; the input reads as it did. -/
def stateThrowsUptoRow : OpenClaim := { program := "ytdgpblhmfkpblaa", sum := "e188f80c068243f9fb6249aa293cf232aa1debdb1e6f1e08ae66c0acb2c4ee63", func := "boomerang/boomeranglaw16.StateThrows", spec := "stateThrows", unfollowed := true, recurses := true, apart := false, narrowed := true }
def StateThrowsUptoSaid : Prop := stateThrowsUptoRow.holds Try.pinned (OpenSpec.upto stateThrowsSpec)

/-- 'boomeranglaw16.StateFull', WHERE WHAT IT READS IS OF BULK AT MOST 1048576: true; the input reads as it did. -/
def stateFullUptoRow : OpenClaim := { program := "ytdgpblhmfkpblaa", sum := "e188f80c068243f9fb6249aa293cf232aa1debdb1e6f1e08ae66c0acb2c4ee63", func := "boomerang/boomeranglaw16.StateFull", spec := "stateFull", unfollowed := true, recurses := true, apart := false, narrowed := true }
def StateFullUptoSaid : Prop := stateFullUptoRow.holds Try.pinned (OpenSpec.upto stateFullSpec)

/-- 'boomeranglaw16.StateRuns', WHERE WHAT IT READS IS OF BULK AT MOST 1048576: true; the input reads as it did. -/
def stateRunsUptoRow : OpenClaim := { program := "ytdgpblhmfkpblaa", sum := "e188f80c068243f9fb6249aa293cf232aa1debdb1e6f1e08ae66c0acb2c4ee63", func := "boomerang/boomeranglaw16.StateRuns", spec := "stateRuns", unfollowed := true, recurses := true, apart := false, narrowed := true }
def StateRunsUptoSaid : Prop := stateRunsUptoRow.holds Try.pinned (OpenSpec.upto stateRunsSpec)

/-- 'boomeranglaw16.StateNone', WHERE WHAT IT READS IS OF BULK AT MOST 1048576: true; the input reads as it did. -/
def stateNoneUptoRow : OpenClaim := { program := "ytdgpblhmfkpblaa", sum := "e188f80c068243f9fb6249aa293cf232aa1debdb1e6f1e08ae66c0acb2c4ee63", func := "boomerang/boomeranglaw16.StateNone", spec := "stateNone", unfollowed := true, recurses := true, apart := false, narrowed := true }
def StateNoneUptoSaid : Prop := stateNoneUptoRow.holds Try.pinned (OpenSpec.upto stateNoneSpec)

/-- 'boomeranglaw16.StateMarks', WHERE WHAT IT READS IS OF BULK AT MOST 1048576: true; the input reads as it did. -/
def stateMarksUptoRow : OpenClaim := { program := "ytdgpblhmfkpblaa", sum := "e188f80c068243f9fb6249aa293cf232aa1debdb1e6f1e08ae66c0acb2c4ee63", func := "boomerang/boomeranglaw16.StateMarks", spec := "stateMarks", unfollowed := true, recurses := true, apart := false, narrowed := true }
def StateMarksUptoSaid : Prop := stateMarksUptoRow.holds Try.pinned (OpenSpec.upto stateMarksSpec)

/-- 'boomeranglaw18.PromiseAdopts', WHERE WHAT IT READS IS OF BULK AT MOST 1048576: true; the input reads as it did. -/
def promiseAdoptsUptoRow : OpenClaim := { program := "ytdgpblhmfkpblaa", sum := "e188f80c068243f9fb6249aa293cf232aa1debdb1e6f1e08ae66c0acb2c4ee63", func := "boomerang/boomeranglaw18.PromiseAdopts", spec := "promiseAdopts", apart := false, narrowed := true }
def PromiseAdoptsUptoSaid : Prop := promiseAdoptsUptoRow.holds Try.pinned (OpenSpec.upto promiseAdoptsSpec)

/-- 'boomeranglaw18.PromiseWaits', WHERE WHAT IT READS IS OF BULK AT MOST 1048576: true; the input reads as it did. -/
def promiseWaitsUptoRow : OpenClaim := { program := "ytdgpblhmfkpblaa", sum := "e188f80c068243f9fb6249aa293cf232aa1debdb1e6f1e08ae66c0acb2c4ee63", func := "boomerang/boomeranglaw18.PromiseWaits", spec := "promiseWaits", apart := false, narrowed := true }
def PromiseWaitsUptoSaid : Prop := promiseWaitsUptoRow.holds Try.pinned (OpenSpec.upto promiseWaitsSpec)

/-- 'boomeranglaw18.PromiseOrder', WHERE WHAT IT READS IS OF BULK AT MOST 1048576: true; the input reads as it did. -/
def promiseOrderUptoRow : OpenClaim := { program := "ytdgpblhmfkpblaa", sum := "e188f80c068243f9fb6249aa293cf232aa1debdb1e6f1e08ae66c0acb2c4ee63", func := "boomerang/boomeranglaw18.PromiseOrder", spec := "promiseOrder", apart := false, narrowed := true }
def PromiseOrderUptoSaid : Prop := promiseOrderUptoRow.holds Try.pinned (OpenSpec.upto promiseOrderSpec)

/-- 'boomeranglaw18.PromiseRuns', WHERE WHAT IT READS IS OF BULK AT MOST 1048576: true; the input reads as it did. -/
def promiseRunsUptoRow : OpenClaim := { program := "ytdgpblhmfkpblaa", sum := "e188f80c068243f9fb6249aa293cf232aa1debdb1e6f1e08ae66c0acb2c4ee63", func := "boomerang/boomeranglaw18.PromiseRuns", spec := "promiseRuns", unfollowed := true, recurses := true, apart := false, narrowed := true }
def PromiseRunsUptoSaid : Prop := promiseRunsUptoRow.holds Try.pinned (OpenSpec.upto promiseRunsSpec)

end Rows
end Go.Proofs.Ytdgpblhmfkpblaa
