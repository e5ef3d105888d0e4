/-
  No cell of these rows narrows 'for every input' (looked for: loops, veiled, ifaces, maps, wideKeys, modest, calm, conditions, laid).
  DERIVED. THE GIVEN ROWS OF THIS SEAT. 4 by the template 'for every input the law returns true; each argument reads behind the call as it read before'; 0 by the template 'total and deterministic' (their statements: YtibepkblgliooaaTotals.lean).
  GIVEN WITH THE SEED: the statements are not yours to turn. If you find one false, say at which input.
  Laid BY PROGRAM, IN A SANDBOX (cutbox-rows.mjs): the forced cells as the released guide's own fill.sh prints them over the translation 684c5595d725f46b… (all of the seat's roots in one cut). By AI agents, Wed Nov 11 2026. No macro, syntax, notation, axiom, sorry.
-/
import Derived.Test.YtibepkblgliooaaChecked
import GoSem.Claim
import GoSem.ClaimJoined
import GoSem.ClaimMapViews
import Derived.JoinedTies
import Derived.KernelRfl
namespace Go.Proofs.Ytibepkblgliooaa
/- THE CELL 'sum', in the pinned program and in every row, IS THE sha256 OF THE DUMP (.gsa) THAT YtibepkblgliooaaProg.lean LOADS. Nothing in Lean hashes anything: it is a label: what it is worth is what the hold of that sum in a sandbox is worth. -/
noncomputable def Try.pinned : Pinned := { name := "ytibepkblgliooaa", sum := "684c5595d725f46bb0d654c837fac99a016caf7074af357cd234e5963433e627", checked := Try.checked }
namespace Rows
def none {H : Type} : Left H := { results := [], args := [] }

/-- 'boomeranglaw12.CodeJumps': WHATEVER THE INPUT: true; the input reads as it did. -/
def codeJumpsSpec : ChangeSpec := { name := "codeJumps", fn := fun _ => fun
  | [d] => { results := [.lit (.bool true)], args := [d] }
  | _ => none }
def codeJumpsRow : OpenClaim := { program := "ytibepkblgliooaa", sum := "684c5595d725f46bb0d654c837fac99a016caf7074af357cd234e5963433e627", func := "boomerang/boomeranglaw12.CodeJumps", spec := "codeJumps", unfollowed := true, recurses := true, apart := false }
def CodeJumpsSaid : Prop := codeJumpsRow.holds Try.pinned (OpenSpec.ofChange codeJumpsSpec)

/-- ITS FALSE NEIGHBOUR: 'it returns false'. Refute it at one input. -/
def codeJumpsWrong : ChangeSpec := { name := "codeJumps", fn := fun _ => fun
  | [d] => { results := [.lit (.bool false)], args := [d] }
  | _ => none }
def CodeJumpsWrongFalsely : Prop := codeJumpsRow.holds Try.pinned (OpenSpec.ofChange codeJumpsWrong)

/-- 'boomeranglaw12.CodeKnown': WHATEVER THE INPUT: true; the input reads as it did. -/
def codeKnownSpec : ChangeSpec := { name := "codeKnown", fn := fun _ => fun
  | [d] => { results := [.lit (.bool true)], args := [d] }
  | _ => none }
def codeKnownRow : OpenClaim := { program := "ytibepkblgliooaa", sum := "684c5595d725f46bb0d654c837fac99a016caf7074af357cd234e5963433e627", func := "boomerang/boomeranglaw12.CodeKnown", spec := "codeKnown", unfollowed := true, recurses := true, apart := false }
def CodeKnownSaid : Prop := codeKnownRow.holds Try.pinned (OpenSpec.ofChange codeKnownSpec)

/-- ITS FALSE NEIGHBOUR: 'it returns false'. Refute it at one input. -/
def codeKnownWrong : ChangeSpec := { name := "codeKnown", fn := fun _ => fun
  | [d] => { results := [.lit (.bool false)], args := [d] }
  | _ => none }
def CodeKnownWrongFalsely : Prop := codeKnownRow.holds Try.pinned (OpenSpec.ofChange codeKnownWrong)

/-- 'boomeranglaw12.CodeAway': WHATEVER THE INPUT: true; the input reads as it did. -/
def codeAwaySpec : ChangeSpec := { name := "codeAway", fn := fun _ => fun
  | [d1, d2] => { results := [.lit (.bool true)], args := [d1, d2] }
  | _ => none }
def codeAwayRow : OpenClaim := { program := "ytibepkblgliooaa", sum := "684c5595d725f46bb0d654c837fac99a016caf7074af357cd234e5963433e627", func := "boomerang/boomeranglaw12.CodeAway", spec := "codeAway", unfollowed := true, recurses := true, apart := false }
def CodeAwaySaid : Prop := codeAwayRow.holds Try.pinned (OpenSpec.ofChange codeAwaySpec)

/-- ITS FALSE NEIGHBOUR: 'it returns false'. Refute it at one input. -/
def codeAwayWrong : ChangeSpec := { name := "codeAway", fn := fun _ => fun
  | [d1, d2] => { results := [.lit (.bool false)], args := [d1, d2] }
  | _ => none }
def CodeAwayWrongFalsely : Prop := codeAwayRow.holds Try.pinned (OpenSpec.ofChange codeAwayWrong)

/-- 'boomeranglaw12.CodeNames': WHATEVER THE INPUT: true; the input reads as it did. -/
def codeNamesSpec : ChangeSpec := { name := "codeNames", fn := fun _ => fun
  | [d1, d2, d3] => { results := [.lit (.bool true)], args := [d1, d2, d3] }
  | _ => none }
def codeNamesRow : OpenClaim := { program := "ytibepkblgliooaa", sum := "684c5595d725f46bb0d654c837fac99a016caf7074af357cd234e5963433e627", func := "boomerang/boomeranglaw12.CodeNames", spec := "codeNames", unfollowed := true, recurses := true, apart := false }
def CodeNamesSaid : Prop := codeNamesRow.holds Try.pinned (OpenSpec.ofChange codeNamesSpec)

/-- ITS FALSE NEIGHBOUR: 'it returns false'. Refute it at one input. -/
def codeNamesWrong : ChangeSpec := { name := "codeNames", fn := fun _ => fun
  | [d1, d2, d3] => { results := [.lit (.bool false)], args := [d1, d2, d3] }
  | _ => none }
def CodeNamesWrongFalsely : Prop := codeNamesRow.holds Try.pinned (OpenSpec.ofChange codeNamesWrong)

/- THE SECOND FORM. 'bulk': how many values and letters a reading holds, each counted each time it is reached (what is shared counts as often as it is met; a slice's spare places count too). A statement '..UptoSaid' is the law's where the arguments, and the package variables that the reading takes, are together of bulk at most 1048576: NARROWER than '..Said'. Prove '..Said' where nothing that the law and all that it calls make is longer than what came in: it says more and counts as full. Else prove '..UptoSaid'. A law counts once. -/
mutual
def uptoBulk {H : Type} : DataW H → Nat
  | .lit (.string bytes) => bytes.length + 1
  | .lit _ => 1
  | .nil => 1
  | .ptr d => uptoBulk d + 1
  | .slice elems spare => uptoBulkAll elems + uptoBulkAll spare + 1
  | .agg parts => uptoBulkAll parts + 1
  | .iface _ d => uptoBulk d + 1
  | .map entries => uptoBulkEntries entries + 1
  | .held _ => 1
def uptoBulkAll {H : Type} : List (DataW H) → Nat
  | [] => 0
  | d :: r => uptoBulk d + uptoBulkAll r
def uptoBulkEntries {H : Type} : List (Lit × DataW H) → Nat
  | [] => 0
  | x :: r => uptoBulkEntry x + uptoBulkEntries r
def uptoBulkEntry {H : Type} : Lit × DataW H → Nat
  | (.string bytes, d) => bytes.length + uptoBulk d + 1
  | (_, d) => uptoBulk d + 1
 end
def uptoSmall : (H : Type) → List (DataW H) → Bool := fun _ ds => decide (uptoBulkAll ds ≤ 1048576)
def OpenSpec.upto (s : _root_.Go.ChangeSpec) : _root_.Go.OpenSpec := { _root_.Go.OpenSpec.ofChange s with cond := some uptoSmall }

/-- 'boomeranglaw12.CodeJumps', WHERE WHAT IT READS IS OF BULK AT MOST 1048576: true; the input reads as it did. -/
def codeJumpsUptoRow : OpenClaim := { program := "ytibepkblgliooaa", sum := "684c5595d725f46bb0d654c837fac99a016caf7074af357cd234e5963433e627", func := "boomerang/boomeranglaw12.CodeJumps", spec := "codeJumps", unfollowed := true, recurses := true, apart := false, narrowed := true }
def CodeJumpsUptoSaid : Prop := codeJumpsUptoRow.holds Try.pinned (OpenSpec.upto codeJumpsSpec)

/-- 'boomeranglaw12.CodeKnown', WHERE WHAT IT READS IS OF BULK AT MOST 1048576: true; the input reads as it did. -/
def codeKnownUptoRow : OpenClaim := { program := "ytibepkblgliooaa", sum := "684c5595d725f46bb0d654c837fac99a016caf7074af357cd234e5963433e627", func := "boomerang/boomeranglaw12.CodeKnown", spec := "codeKnown", unfollowed := true, recurses := true, apart := false, narrowed := true }
def CodeKnownUptoSaid : Prop := codeKnownUptoRow.holds Try.pinned (OpenSpec.upto codeKnownSpec)

/-- 'boomeranglaw12.CodeAway', WHERE WHAT IT READS IS OF BULK AT MOST 1048576: true; the input reads as it did. -/
def codeAwayUptoRow : OpenClaim := { program := "ytibepkblgliooaa", sum := "684c5595d725f46bb0d654c837fac99a016caf7074af357cd234e5963433e627", func := "boomerang/boomeranglaw12.CodeAway", spec := "codeAway", unfollowed := true, recurses := true, apart := false, narrowed := true }
def CodeAwayUptoSaid : Prop := codeAwayUptoRow.holds Try.pinned (OpenSpec.upto codeAwaySpec)

/-- 'boomeranglaw12.CodeNames', WHERE WHAT IT READS IS OF BULK AT MOST 1048576: true; the input reads as it did. -/
def codeNamesUptoRow : OpenClaim := { program := "ytibepkblgliooaa", sum := "684c5595d725f46bb0d654c837fac99a016caf7074af357cd234e5963433e627", func := "boomerang/boomeranglaw12.CodeNames", spec := "codeNames", unfollowed := true, recurses := true, apart := false, narrowed := true }
def CodeNamesUptoSaid : Prop := codeNamesUptoRow.holds Try.pinned (OpenSpec.upto codeNamesSpec)

end Rows
end Go.Proofs.Ytibepkblgliooaa
