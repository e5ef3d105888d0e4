/-
  No cell of these rows narrows 'for every input' (looked for: loops, veiled, ifaces, maps, wideKeys, modest, calm, conditions, laid).
  DERIVED. THE GIVEN ROWS OF THIS SEAT. 9 by the template 'for every input the law returns true; each argument reads behind the call as it read before'; 0 by the template 'total and deterministic' (their statements: YticbjhicjegfoaaTotals.lean).
  GIVEN WITH THE SEED: the statements are not yours to turn. If you find one false, say at which input.
  Laid BY PROGRAM, IN A SANDBOX (cutbox-rows.mjs): the forced cells as the released guide's own fill.sh prints them over the translation fcd103200ede66bb… (all of the seat's roots in one cut). By AI agents, Wed Nov 11 2026. No macro, syntax, notation, axiom, sorry.
-/
import Derived.Test.YticbjhicjegfoaaChecked
import GoSem.Claim
import GoSem.ClaimJoined
import GoSem.ClaimMapViews
import Derived.JoinedTies
import Derived.KernelRfl
namespace Go.Proofs.Yticbjhicjegfoaa
/- THE CELL 'sum', in the pinned program and in every row, IS THE sha256 OF THE DUMP (.gsa) THAT YticbjhicjegfoaaProg.lean LOADS. Nothing in Lean hashes anything: it is a label: what it is worth is what the hold of that sum in a sandbox is worth. -/
noncomputable def Try.pinned : Pinned := { name := "yticbjhicjegfoaa", sum := "fcd103200ede66bb011e16b7d7adadb57ff9742852e6b3cb08e090d1a9336e91", checked := Try.checked }
namespace Rows
def none {H : Type} : Left H := { results := [], args := [] }

/-- 'boomeranglaw10.ScopeAll': WHATEVER THE INPUT: true; the input reads as it did. -/
def scopeAllSpec : ChangeSpec := { name := "scopeAll", fn := fun _ => fun
  | [d] => { results := [.lit (.bool true)], args := [d] }
  | _ => none }
def scopeAllRow : OpenClaim := { program := "yticbjhicjegfoaa", sum := "fcd103200ede66bb011e16b7d7adadb57ff9742852e6b3cb08e090d1a9336e91", func := "boomerang/boomeranglaw10.ScopeAll", spec := "scopeAll", unfollowed := true, recurses := true, apart := false }
def ScopeAllSaid : Prop := scopeAllRow.holds Try.pinned (OpenSpec.ofChange scopeAllSpec)

/-- ITS FALSE NEIGHBOUR: 'it returns false'. Refute it at one input. -/
def scopeAllWrong : ChangeSpec := { name := "scopeAll", fn := fun _ => fun
  | [d] => { results := [.lit (.bool false)], args := [d] }
  | _ => none }
def ScopeAllWrongFalsely : Prop := scopeAllRow.holds Try.pinned (OpenSpec.ofChange scopeAllWrong)

/-- 'boomeranglaw10.ScopeMade': WHATEVER THE INPUT: true; the input reads as it did. -/
def scopeMadeSpec : ChangeSpec := { name := "scopeMade", fn := fun _ => fun
  | [d1, d2, d3] => { results := [.lit (.bool true)], args := [d1, d2, d3] }
  | _ => none }
def scopeMadeRow : OpenClaim := { program := "yticbjhicjegfoaa", sum := "fcd103200ede66bb011e16b7d7adadb57ff9742852e6b3cb08e090d1a9336e91", func := "boomerang/boomeranglaw10.ScopeMade", spec := "scopeMade", unfollowed := true, recurses := true, apart := false }
def ScopeMadeSaid : Prop := scopeMadeRow.holds Try.pinned (OpenSpec.ofChange scopeMadeSpec)

/-- ITS FALSE NEIGHBOUR: 'it returns false'. Refute it at one input. -/
def scopeMadeWrong : ChangeSpec := { name := "scopeMade", fn := fun _ => fun
  | [d1, d2, d3] => { results := [.lit (.bool false)], args := [d1, d2, d3] }
  | _ => none }
def ScopeMadeWrongFalsely : Prop := scopeMadeRow.holds Try.pinned (OpenSpec.ofChange scopeMadeWrong)

/-- 'boomeranglaw10.ScopeNests': WHATEVER THE INPUT: true; the input reads as it did. -/
def scopeNestsSpec : ChangeSpec := { name := "scopeNests", fn := fun _ => fun
  | [d1, d2] => { results := [.lit (.bool true)], args := [d1, d2] }
  | _ => none }
def scopeNestsRow : OpenClaim := { program := "yticbjhicjegfoaa", sum := "fcd103200ede66bb011e16b7d7adadb57ff9742852e6b3cb08e090d1a9336e91", func := "boomerang/boomeranglaw10.ScopeNests", spec := "scopeNests", unfollowed := true, recurses := true, apart := false }
def ScopeNestsSaid : Prop := scopeNestsRow.holds Try.pinned (OpenSpec.ofChange scopeNestsSpec)

/-- ITS FALSE NEIGHBOUR: 'it returns false'. Refute it at one input. -/
def scopeNestsWrong : ChangeSpec := { name := "scopeNests", fn := fun _ => fun
  | [d1, d2] => { results := [.lit (.bool false)], args := [d1, d2] }
  | _ => none }
def ScopeNestsWrongFalsely : Prop := scopeNestsRow.holds Try.pinned (OpenSpec.ofChange scopeNestsWrong)

/-- 'boomeranglaw10.ScopeForms': WHATEVER THE INPUT: true; the input reads as it did. -/
def scopeFormsSpec : ChangeSpec := { name := "scopeForms", fn := fun _ => fun
  | [d] => { results := [.lit (.bool true)], args := [d] }
  | _ => none }
def scopeFormsRow : OpenClaim := { program := "yticbjhicjegfoaa", sum := "fcd103200ede66bb011e16b7d7adadb57ff9742852e6b3cb08e090d1a9336e91", func := "boomerang/boomeranglaw10.ScopeForms", spec := "scopeForms", unfollowed := true, recurses := true, apart := false }
def ScopeFormsSaid : Prop := scopeFormsRow.holds Try.pinned (OpenSpec.ofChange scopeFormsSpec)

/-- ITS FALSE NEIGHBOUR: 'it returns false'. Refute it at one input. -/
def scopeFormsWrong : ChangeSpec := { name := "scopeForms", fn := fun _ => fun
  | [d] => { results := [.lit (.bool false)], args := [d] }
  | _ => none }
def ScopeFormsWrongFalsely : Prop := scopeFormsRow.holds Try.pinned (OpenSpec.ofChange scopeFormsWrong)

/-- 'boomeranglaw10.ScopeFuns': WHATEVER THE INPUT: true; the input reads as it did. -/
def scopeFunsSpec : ChangeSpec := { name := "scopeFuns", fn := fun _ => fun
  | [d1, d2] => { results := [.lit (.bool true)], args := [d1, d2] }
  | _ => none }
def scopeFunsRow : OpenClaim := { program := "yticbjhicjegfoaa", sum := "fcd103200ede66bb011e16b7d7adadb57ff9742852e6b3cb08e090d1a9336e91", func := "boomerang/boomeranglaw10.ScopeFuns", spec := "scopeFuns", unfollowed := true, recurses := true, apart := false }
def ScopeFunsSaid : Prop := scopeFunsRow.holds Try.pinned (OpenSpec.ofChange scopeFunsSpec)

/-- ITS FALSE NEIGHBOUR: 'it returns false'. Refute it at one input. -/
def scopeFunsWrong : ChangeSpec := { name := "scopeFuns", fn := fun _ => fun
  | [d1, d2] => { results := [.lit (.bool false)], args := [d1, d2] }
  | _ => none }
def ScopeFunsWrongFalsely : Prop := scopeFunsRow.holds Try.pinned (OpenSpec.ofChange scopeFunsWrong)

/-- 'boomeranglaw11.EarlyAll': WHATEVER THE INPUT: true; the input reads as it did. -/
def earlyAllSpec : ChangeSpec := { name := "earlyAll", fn := fun _ => fun
  | [d] => { results := [.lit (.bool true)], args := [d] }
  | _ => none }
def earlyAllRow : OpenClaim := { program := "yticbjhicjegfoaa", sum := "fcd103200ede66bb011e16b7d7adadb57ff9742852e6b3cb08e090d1a9336e91", func := "boomerang/boomeranglaw11.EarlyAll", spec := "earlyAll", unfollowed := true, recurses := true, apart := false }
def EarlyAllSaid : Prop := earlyAllRow.holds Try.pinned (OpenSpec.ofChange earlyAllSpec)

/-- ITS FALSE NEIGHBOUR: 'it returns false'. Refute it at one input. -/
def earlyAllWrong : ChangeSpec := { name := "earlyAll", fn := fun _ => fun
  | [d] => { results := [.lit (.bool false)], args := [d] }
  | _ => none }
def EarlyAllWrongFalsely : Prop := earlyAllRow.holds Try.pinned (OpenSpec.ofChange earlyAllWrong)

/-- 'boomeranglaw11.EarlyMade': WHATEVER THE INPUT: true; the input reads as it did. -/
def earlyMadeSpec : ChangeSpec := { name := "earlyMade", fn := fun _ => fun
  | [d1, d2, d3, d4] => { results := [.lit (.bool true)], args := [d1, d2, d3, d4] }
  | _ => none }
def earlyMadeRow : OpenClaim := { program := "yticbjhicjegfoaa", sum := "fcd103200ede66bb011e16b7d7adadb57ff9742852e6b3cb08e090d1a9336e91", func := "boomerang/boomeranglaw11.EarlyMade", spec := "earlyMade", unfollowed := true, recurses := true, apart := false }
def EarlyMadeSaid : Prop := earlyMadeRow.holds Try.pinned (OpenSpec.ofChange earlyMadeSpec)

/-- ITS FALSE NEIGHBOUR: 'it returns false'. Refute it at one input. -/
def earlyMadeWrong : ChangeSpec := { name := "earlyMade", fn := fun _ => fun
  | [d1, d2, d3, d4] => { results := [.lit (.bool false)], args := [d1, d2, d3, d4] }
  | _ => none }
def EarlyMadeWrongFalsely : Prop := earlyMadeRow.holds Try.pinned (OpenSpec.ofChange earlyMadeWrong)

/-- 'boomeranglaw11.EarlyForms': WHATEVER THE INPUT: true; the input reads as it did. -/
def earlyFormsSpec : ChangeSpec := { name := "earlyForms", fn := fun _ => fun
  | [d] => { results := [.lit (.bool true)], args := [d] }
  | _ => none }
def earlyFormsRow : OpenClaim := { program := "yticbjhicjegfoaa", sum := "fcd103200ede66bb011e16b7d7adadb57ff9742852e6b3cb08e090d1a9336e91", func := "boomerang/boomeranglaw11.EarlyForms", spec := "earlyForms", unfollowed := true, recurses := true, apart := false }
def EarlyFormsSaid : Prop := earlyFormsRow.holds Try.pinned (OpenSpec.ofChange earlyFormsSpec)

/-- ITS FALSE NEIGHBOUR: 'it returns false'. Refute it at one input. -/
def earlyFormsWrong : ChangeSpec := { name := "earlyForms", fn := fun _ => fun
  | [d] => { results := [.lit (.bool false)], args := [d] }
  | _ => none }
def EarlyFormsWrongFalsely : Prop := earlyFormsRow.holds Try.pinned (OpenSpec.ofChange earlyFormsWrong)

/-- 'boomeranglaw11.EarlyNests': WHATEVER THE INPUT: true; the input reads as it did. -/
def earlyNestsSpec : ChangeSpec := { name := "earlyNests", fn := fun _ => fun
  | [d1, d2] => { results := [.lit (.bool true)], args := [d1, d2] }
  | _ => none }
def earlyNestsRow : OpenClaim := { program := "yticbjhicjegfoaa", sum := "fcd103200ede66bb011e16b7d7adadb57ff9742852e6b3cb08e090d1a9336e91", func := "boomerang/boomeranglaw11.EarlyNests", spec := "earlyNests", unfollowed := true, recurses := true, apart := false }
def EarlyNestsSaid : Prop := earlyNestsRow.holds Try.pinned (OpenSpec.ofChange earlyNestsSpec)

/-- ITS FALSE NEIGHBOUR: 'it returns false'. Refute it at one input. -/
def earlyNestsWrong : ChangeSpec := { name := "earlyNests", fn := fun _ => fun
  | [d1, d2] => { results := [.lit (.bool false)], args := [d1, d2] }
  | _ => none }
def EarlyNestsWrongFalsely : Prop := earlyNestsRow.holds Try.pinned (OpenSpec.ofChange earlyNestsWrong)

/- THE SECOND FORM. 'bulk': how many values and letters a reading holds, each counted each time it is reached (what is shared counts as often as it is met; a slice's spare places count too). A statement '..UptoSaid' is the law's where the arguments, and the package variables that the reading takes, are together of bulk at most 1048576: NARROWER than '..Said'. Prove '..Said' where nothing that the law and all that it calls make is longer than what came in: it says more and counts as full. Else prove '..UptoSaid'. A law counts once. -/
mutual
def uptoBulk {H : Type} : DataW H → Nat
  | .lit (.string bytes) => bytes.length + 1
  | .lit _ => 1
  | .nil => 1
  | .ptr d => uptoBulk d + 1
  | .slice elems spare => uptoBulkAll elems + uptoBulkAll spare + 1
  | .agg parts => uptoBulkAll parts + 1
  | .iface _ d => uptoBulk d + 1
  | .map entries => uptoBulkEntries entries + 1
  | .held _ => 1
def uptoBulkAll {H : Type} : List (DataW H) → Nat
  | [] => 0
  | d :: r => uptoBulk d + uptoBulkAll r
def uptoBulkEntries {H : Type} : List (Lit × DataW H) → Nat
  | [] => 0
  | x :: r => uptoBulkEntry x + uptoBulkEntries r
def uptoBulkEntry {H : Type} : Lit × DataW H → Nat
  | (.string bytes, d) => bytes.length + uptoBulk d + 1
  | (_, d) => uptoBulk d + 1
 end
def uptoSmall : (H : Type) → List (DataW H) → Bool := fun _ ds => decide (uptoBulkAll ds ≤ 1048576)
def OpenSpec.upto (s : _root_.Go.ChangeSpec) : _root_.Go.OpenSpec := { _root_.Go.OpenSpec.ofChange s with cond := some uptoSmall }

/-- 'boomeranglaw10.ScopeAll', WHERE WHAT IT READS IS OF BULK AT MOST 1048576: true; the input reads as it did. -/
def scopeAllUptoRow : OpenClaim := { program := "yticbjhicjegfoaa", sum := "fcd103200ede66bb011e16b7d7adadb57ff9742852e6b3cb08e090d1a9336e91", func := "boomerang/boomeranglaw10.ScopeAll", spec := "scopeAll", unfollowed := true, recurses := true, apart := false, narrowed := true }
def ScopeAllUptoSaid : Prop := scopeAllUptoRow.holds Try.pinned (OpenSpec.upto scopeAllSpec)

/-- 'boomeranglaw10.ScopeMade', WHERE WHAT IT READS IS OF BULK AT MOST 1048576: true; the input reads as it did. -/
def scopeMadeUptoRow : OpenClaim := { program := "yticbjhicjegfoaa", sum := "fcd103200ede66bb011e16b7d7adadb57ff9742852e6b3cb08e090d1a9336e91", func := "boomerang/boomeranglaw10.ScopeMade", spec := "scopeMade", unfollowed := true, recurses := true, apart := false, narrowed := true }
def ScopeMadeUptoSaid : Prop := scopeMadeUptoRow.holds Try.pinned (OpenSpec.upto scopeMadeSpec)

/-- 'boomeranglaw10.ScopeNests', WHERE WHAT IT READS IS OF BULK AT MOST 1048576: true; the input reads as it did. -/
def scopeNestsUptoRow : OpenClaim := { program := "yticbjhicjegfoaa", sum := "fcd103200ede66bb011e16b7d7adadb57ff9742852e6b3cb08e090d1a9336e91", func := "boomerang/boomeranglaw10.ScopeNests", spec := "scopeNests", unfollowed := true, recurses := true, apart := false, narrowed := true }
def ScopeNestsUptoSaid : Prop := scopeNestsUptoRow.holds Try.pinned (OpenSpec.upto scopeNestsSpec)

/-- 'boomeranglaw10.ScopeForms', WHERE WHAT IT READS IS OF BULK AT MOST 1048576: true; the input reads as it did. -/
def scopeFormsUptoRow : OpenClaim := { program := "yticbjhicjegfoaa", sum := "fcd103200ede66bb011e16b7d7adadb57ff9742852e6b3cb08e090d1a9336e91", func := "boomerang/boomeranglaw10.ScopeForms", spec := "scopeForms", unfollowed := true, recurses := true, apart := false, narrowed := true }
def ScopeFormsUptoSaid : Prop := scopeFormsUptoRow.holds Try.pinned (OpenSpec.upto scopeFormsSpec)

/-- 'boomeranglaw10.ScopeFuns', WHERE WHAT IT READS IS OF BULK AT MOST 1048576: true; the input reads as it did. -/
def scopeFunsUptoRow : OpenClaim := { program := "yticbjhicjegfoaa", sum := "fcd103200ede66bb011e16b7d7adadb57ff9742852e6b3cb08e090d1a9336e91", func := "boomerang/boomeranglaw10.ScopeFuns", spec := "scopeFuns", unfollowed := true, recurses := true, apart := false, narrowed := true }
def ScopeFunsUptoSaid : Prop := scopeFunsUptoRow.holds Try.pinned (OpenSpec.upto scopeFunsSpec)

/-- 'boomeranglaw11.EarlyAll', WHERE WHAT IT READS IS OF BULK AT MOST 1048576: true; the input reads as it did. -/
def earlyAllUptoRow : OpenClaim := { program := "yticbjhicjegfoaa", sum := "fcd103200ede66bb011e16b7d7adadb57ff9742852e6b3cb08e090d1a9336e91", func := "boomerang/boomeranglaw11.EarlyAll", spec := "earlyAll", unfollowed := true, recurses := true, apart := false, narrowed := true }
def EarlyAllUptoSaid : Prop := earlyAllUptoRow.holds Try.pinned (OpenSpec.upto earlyAllSpec)

/-- 'boomeranglaw11.EarlyMade', WHERE WHAT IT READS IS OF BULK AT MOST 1048576: true; the input reads as it did. -/
def earlyMadeUptoRow : OpenClaim := { program := "yticbjhicjegfoaa", sum := "fcd103200ede66bb011e16b7d7adadb57ff9742852e6b3cb08e090d1a9336e91", func := "boomerang/boomeranglaw11.EarlyMade", spec := "earlyMade", unfollowed := true, recurses := true, apart := false, narrowed := true }
def EarlyMadeUptoSaid : Prop := earlyMadeUptoRow.holds Try.pinned (OpenSpec.upto earlyMadeSpec)

/-- 'boomeranglaw11.EarlyForms', WHERE WHAT IT READS IS OF BULK AT MOST 1048576: true; the input reads as it did. -/
def earlyFormsUptoRow : OpenClaim := { program := "yticbjhicjegfoaa", sum := "fcd103200ede66bb011e16b7d7adadb57ff9742852e6b3cb08e090d1a9336e91", func := "boomerang/boomeranglaw11.EarlyForms", spec := "earlyForms", unfollowed := true, recurses := true, apart := false, narrowed := true }
def EarlyFormsUptoSaid : Prop := earlyFormsUptoRow.holds Try.pinned (OpenSpec.upto earlyFormsSpec)

/-- 'boomeranglaw11.EarlyNests', WHERE WHAT IT READS IS OF BULK AT MOST 1048576: true; the input reads as it did. -/
def earlyNestsUptoRow : OpenClaim := { program := "yticbjhicjegfoaa", sum := "fcd103200ede66bb011e16b7d7adadb57ff9742852e6b3cb08e090d1a9336e91", func := "boomerang/boomeranglaw11.EarlyNests", spec := "earlyNests", unfollowed := true, recurses := true, apart := false, narrowed := true }
def EarlyNestsUptoSaid : Prop := earlyNestsUptoRow.holds Try.pinned (OpenSpec.upto earlyNestsSpec)

end Rows
end Go.Proofs.Yticbjhicjegfoaa
