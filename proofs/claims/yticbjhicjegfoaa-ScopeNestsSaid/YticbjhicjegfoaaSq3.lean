/- ScopeNests: its programs, looked at. -/
import Derived.Test.YticbjhicjegfoaaSp
namespace Go.Proofs.Yticbjhicjegfoaa.Q
open Go.RowKit

set_option maxRecDepth 100000 in
theorem nests_9_3 : (List.range 64).all (fun m => nestChk 9 (192 + m)) = true := by decide +kernel
set_option maxRecDepth 100000 in
theorem nests_9_7 : (List.range 64).all (fun m => nestChk 9 (448 + m)) = true := by decide +kernel
set_option maxRecDepth 100000 in
theorem nests_8_3 : (List.range 64).all (fun m => nestChk 8 (192 + m)) = true := by decide +kernel
set_option maxRecDepth 100000 in
theorem nests_small : (List.range 6).all (fun k => (List.range (2 ^ k)).all (fun m => nestChk k m)) = true := by decide +kernel
end Go.Proofs.Yticbjhicjegfoaa.Q
