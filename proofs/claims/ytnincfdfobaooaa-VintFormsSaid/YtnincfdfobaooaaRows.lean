/-
  No cell of these rows narrows 'for every input' (looked for: loops, veiled, ifaces, maps, wideKeys, modest, calm, conditions, laid).
  DERIVED. THE GIVEN ROWS OF THIS SEAT. 6 by the template 'for every input the law returns true; each argument reads behind the call as it read before'; 0 by the template 'total and deterministic' (their statements: YtnincfdfobaooaaTotals.lean).
  GIVEN WITH THE SEED: the statements are not yours to turn. If you find one false, say at which input.
  Laid BY PROGRAM, IN A SANDBOX (cutbox-rows.mjs): the forced cells as the released guide's own fill.sh prints them over the translation 246ebe946a856d53… (all of the seat's roots in one cut). By AI agents, Wed Nov 11 2026. No macro, syntax, notation, axiom, sorry.
-/
import Derived.Test.YtnincfdfobaooaaChecked
import GoSem.Claim
import GoSem.ClaimJoined
import GoSem.ClaimMapViews
import Derived.JoinedTies
import Derived.KernelRfl
namespace Go.Proofs.Ytnincfdfobaooaa
/- THE CELL 'sum', in the pinned program and in every row, IS THE sha256 OF THE DUMP (.gsa) THAT YtnincfdfobaooaaProg.lean LOADS. Nothing in Lean hashes anything: it is a label: what it is worth is what the hold of that sum in a sandbox is worth. -/
noncomputable def Try.pinned : Pinned := { name := "ytnincfdfobaooaa", sum := "246ebe946a856d532d2c103976eac30215a6f9dd0f339e22c8969a33e4956d82", checked := Try.checked }
namespace Rows
def none {H : Type} : Left H := { results := [], args := [] }

/-- 'boomeranglaw1.VintRows': WHATEVER THE INPUT: true; the input reads as it did. -/
def vintRowsSpec : ChangeSpec := { name := "vintRows", fn := fun _ => fun
  | [d] => { results := [.lit (.bool true)], args := [d] }
  | _ => none }
def vintRowsRow : OpenClaim := { program := "ytnincfdfobaooaa", sum := "246ebe946a856d532d2c103976eac30215a6f9dd0f339e22c8969a33e4956d82", func := "boomerang/boomeranglaw1.VintRows", spec := "vintRows", unfollowed := true, recurses := true, apart := false }
def VintRowsSaid : Prop := vintRowsRow.holds Try.pinned (OpenSpec.ofChange vintRowsSpec)

/-- ITS FALSE NEIGHBOUR: 'it returns false'. Refute it at one input. -/
def vintRowsWrong : ChangeSpec := { name := "vintRows", fn := fun _ => fun
  | [d] => { results := [.lit (.bool false)], args := [d] }
  | _ => none }
def VintRowsWrongFalsely : Prop := vintRowsRow.holds Try.pinned (OpenSpec.ofChange vintRowsWrong)

/-- 'boomeranglaw1.VintSizes': WHATEVER THE INPUT: true; the input reads as it did. -/
def vintSizesSpec : ChangeSpec := { name := "vintSizes", fn := fun _ => fun
  | [d1, d2] => { results := [.lit (.bool true)], args := [d1, d2] }
  | _ => none }
def vintSizesRow : OpenClaim := { program := "ytnincfdfobaooaa", sum := "246ebe946a856d532d2c103976eac30215a6f9dd0f339e22c8969a33e4956d82", func := "boomerang/boomeranglaw1.VintSizes", spec := "vintSizes", unfollowed := true, recurses := true, apart := false }
def VintSizesSaid : Prop := vintSizesRow.holds Try.pinned (OpenSpec.ofChange vintSizesSpec)

/-- ITS FALSE NEIGHBOUR: 'it returns false'. Refute it at one input. -/
def vintSizesWrong : ChangeSpec := { name := "vintSizes", fn := fun _ => fun
  | [d1, d2] => { results := [.lit (.bool false)], args := [d1, d2] }
  | _ => none }
def VintSizesWrongFalsely : Prop := vintSizesRow.holds Try.pinned (OpenSpec.ofChange vintSizesWrong)

/-- 'boomeranglaw1.VintForms': WHATEVER THE INPUT: true; the input reads as it did. -/
def vintFormsSpec : ChangeSpec := { name := "vintForms", fn := fun _ => fun
  | [d1, d2, d3] => { results := [.lit (.bool true)], args := [d1, d2, d3] }
  | _ => none }
def vintFormsRow : OpenClaim := { program := "ytnincfdfobaooaa", sum := "246ebe946a856d532d2c103976eac30215a6f9dd0f339e22c8969a33e4956d82", func := "boomerang/boomeranglaw1.VintForms", spec := "vintForms", unfollowed := true, recurses := true, apart := false }
def VintFormsSaid : Prop := vintFormsRow.holds Try.pinned (OpenSpec.ofChange vintFormsSpec)

/-- ITS FALSE NEIGHBOUR: 'it returns false'. Refute it at one input. -/
def vintFormsWrong : ChangeSpec := { name := "vintForms", fn := fun _ => fun
  | [d1, d2, d3] => { results := [.lit (.bool false)], args := [d1, d2, d3] }
  | _ => none }
def VintFormsWrongFalsely : Prop := vintFormsRow.holds Try.pinned (OpenSpec.ofChange vintFormsWrong)

/-- 'boomeranglaw1.VintAll': WHATEVER THE INPUT: true; the input reads as it did. -/
def vintAllSpec : ChangeSpec := { name := "vintAll", fn := fun _ => fun
  | [d1, d2, d3, d4] => { results := [.lit (.bool true)], args := [d1, d2, d3, d4] }
  | _ => none }
def vintAllRow : OpenClaim := { program := "ytnincfdfobaooaa", sum := "246ebe946a856d532d2c103976eac30215a6f9dd0f339e22c8969a33e4956d82", func := "boomerang/boomeranglaw1.VintAll", spec := "vintAll", unfollowed := true, recurses := true, apart := false }
def VintAllSaid : Prop := vintAllRow.holds Try.pinned (OpenSpec.ofChange vintAllSpec)

/-- ITS FALSE NEIGHBOUR: 'it returns false'. Refute it at one input. -/
def vintAllWrong : ChangeSpec := { name := "vintAll", fn := fun _ => fun
  | [d1, d2, d3, d4] => { results := [.lit (.bool false)], args := [d1, d2, d3, d4] }
  | _ => none }
def VintAllWrongFalsely : Prop := vintAllRow.holds Try.pinned (OpenSpec.ofChange vintAllWrong)

/-- 'boomeranglaw1.VintBack': WHATEVER THE INPUT: true; the input reads as it did. -/
def vintBackSpec : ChangeSpec := { name := "vintBack", fn := fun _ => fun
  | [d1, d2, d3, d4, d5] => { results := [.lit (.bool true)], args := [d1, d2, d3, d4, d5] }
  | _ => none }
def vintBackRow : OpenClaim := { program := "ytnincfdfobaooaa", sum := "246ebe946a856d532d2c103976eac30215a6f9dd0f339e22c8969a33e4956d82", func := "boomerang/boomeranglaw1.VintBack", spec := "vintBack", unfollowed := true, recurses := true, apart := false }
def VintBackSaid : Prop := vintBackRow.holds Try.pinned (OpenSpec.ofChange vintBackSpec)

/-- ITS FALSE NEIGHBOUR: 'it returns false'. Refute it at one input. -/
def vintBackWrong : ChangeSpec := { name := "vintBack", fn := fun _ => fun
  | [d1, d2, d3, d4, d5] => { results := [.lit (.bool false)], args := [d1, d2, d3, d4, d5] }
  | _ => none }
def VintBackWrongFalsely : Prop := vintBackRow.holds Try.pinned (OpenSpec.ofChange vintBackWrong)

/-- 'boomeranglaw1.VintTexts': WHATEVER THE INPUT: true; the input reads as it did. -/
def vintTextsSpec : ChangeSpec := { name := "vintTexts", fn := fun _ => fun
  | [d] => { results := [.lit (.bool true)], args := [d] }
  | _ => none }
def vintTextsRow : OpenClaim := { program := "ytnincfdfobaooaa", sum := "246ebe946a856d532d2c103976eac30215a6f9dd0f339e22c8969a33e4956d82", func := "boomerang/boomeranglaw1.VintTexts", spec := "vintTexts", unfollowed := true, recurses := true, apart := false }
def VintTextsSaid : Prop := vintTextsRow.holds Try.pinned (OpenSpec.ofChange vintTextsSpec)

/-- ITS FALSE NEIGHBOUR: 'it returns false'. Refute it at one input. -/
def vintTextsWrong : ChangeSpec := { name := "vintTexts", fn := fun _ => fun
  | [d] => { results := [.lit (.bool false)], args := [d] }
  | _ => none }
def VintTextsWrongFalsely : Prop := vintTextsRow.holds Try.pinned (OpenSpec.ofChange vintTextsWrong)

/- THE SECOND FORM. 'bulk': how many values and letters a reading holds, each counted each time it is reached (what is shared counts as often as it is met; a slice's spare places count too). A statement '..UptoSaid' is the law's where the arguments, and the package variables that the reading takes, are together of bulk at most 1048576: NARROWER than '..Said'. Prove '..Said' where nothing that the law and all that it calls make is longer than what came in: it says more and counts as full. Else prove '..UptoSaid'. A law counts once. -/
mutual
def uptoBulk {H : Type} : DataW H → Nat
  | .lit (.string bytes) => bytes.length + 1
  | .lit _ => 1
  | .nil => 1
  | .ptr d => uptoBulk d + 1
  | .slice elems spare => uptoBulkAll elems + uptoBulkAll spare + 1
  | .agg parts => uptoBulkAll parts + 1
  | .iface _ d => uptoBulk d + 1
  | .map entries => uptoBulkEntries entries + 1
  | .held _ => 1
def uptoBulkAll {H : Type} : List (DataW H) → Nat
  | [] => 0
  | d :: r => uptoBulk d + uptoBulkAll r
def uptoBulkEntries {H : Type} : List (Lit × DataW H) → Nat
  | [] => 0
  | x :: r => uptoBulkEntry x + uptoBulkEntries r
def uptoBulkEntry {H : Type} : Lit × DataW H → Nat
  | (.string bytes, d) => bytes.length + uptoBulk d + 1
  | (_, d) => uptoBulk d + 1
 end
def uptoSmall : (H : Type) → List (DataW H) → Bool := fun _ ds => decide (uptoBulkAll ds ≤ 1048576)
def OpenSpec.upto (s : _root_.Go.ChangeSpec) : _root_.Go.OpenSpec := { _root_.Go.OpenSpec.ofChange s with cond := some uptoSmall }

/-- 'boomeranglaw1.VintRows', WHERE WHAT IT READS IS OF BULK AT MOST 1048576: true; the input reads as it did. -/
def vintRowsUptoRow : OpenClaim := { program := "ytnincfdfobaooaa", sum := "246ebe946a856d532d2c103976eac30215a6f9dd0f339e22c8969a33e4956d82", func := "boomerang/boomeranglaw1.VintRows", spec := "vintRows", unfollowed := true, recurses := true, apart := false, narrowed := true }
def VintRowsUptoSaid : Prop := vintRowsUptoRow.holds Try.pinned (OpenSpec.upto vintRowsSpec)

/-- 'boomeranglaw1.VintSizes', WHERE WHAT IT READS IS OF BULK AT MOST 1048576: true; the input reads as it did. -/
def vintSizesUptoRow : OpenClaim := { program := "ytnincfdfobaooaa", sum := "246ebe946a856d532d2c103976eac30215a6f9dd0f339e22c8969a33e4956d82", func := "boomerang/boomeranglaw1.VintSizes", spec := "vintSizes", unfollowed := true, recurses := true, apart := false, narrowed := true }
def VintSizesUptoSaid : Prop := vintSizesUptoRow.holds Try.pinned (OpenSpec.upto vintSizesSpec)

/-- 'boomeranglaw1.VintForms', WHERE WHAT IT READS IS OF BULK AT MOST 1048576: true; the input reads as it did. -/
def vintFormsUptoRow : OpenClaim := { program := "ytnincfdfobaooaa", sum := "246ebe946a856d532d2c103976eac30215a6f9dd0f339e22c8969a33e4956d82", func := "boomerang/boomeranglaw1.VintForms", spec := "vintForms", unfollowed := true, recurses := true, apart := false, narrowed := true }
def VintFormsUptoSaid : Prop := vintFormsUptoRow.holds Try.pinned (OpenSpec.upto vintFormsSpec)

/-- 'boomeranglaw1.VintAll', WHERE WHAT IT READS IS OF BULK AT MOST 1048576: true; the input reads as it did. -/
def vintAllUptoRow : OpenClaim := { program := "ytnincfdfobaooaa", sum := "246ebe946a856d532d2c103976eac30215a6f9dd0f339e22c8969a33e4956d82", func := "boomerang/boomeranglaw1.VintAll", spec := "vintAll", unfollowed := true, recurses := true, apart := false, narrowed := true }
def VintAllUptoSaid : Prop := vintAllUptoRow.holds Try.pinned (OpenSpec.upto vintAllSpec)

/-- 'boomeranglaw1.VintBack', WHERE WHAT IT READS IS OF BULK AT MOST 1048576: true; the input reads as it did. -/
def vintBackUptoRow : OpenClaim := { program := "ytnincfdfobaooaa", sum := "246ebe946a856d532d2c103976eac30215a6f9dd0f339e22c8969a33e4956d82", func := "boomerang/boomeranglaw1.VintBack", spec := "vintBack", unfollowed := true, recurses := true, apart := false, narrowed := true }
def VintBackUptoSaid : Prop := vintBackUptoRow.holds Try.pinned (OpenSpec.upto vintBackSpec)

/-- 'boomeranglaw1.VintTexts', WHERE WHAT IT READS IS OF BULK AT MOST 1048576: true; the input reads as it did. -/
def vintTextsUptoRow : OpenClaim := { program := "ytnincfdfobaooaa", sum := "246ebe946a856d532d2c103976eac30215a6f9dd0f339e22c8969a33e4956d82", func := "boomerang/boomeranglaw1.VintTexts", spec := "vintTexts", unfollowed := true, recurses := true, apart := false, narrowed := true }
def VintTextsUptoSaid : Prop := vintTextsUptoRow.holds Try.pinned (OpenSpec.upto vintTextsSpec)

end Rows
end Go.Proofs.Ytnincfdfobaooaa
