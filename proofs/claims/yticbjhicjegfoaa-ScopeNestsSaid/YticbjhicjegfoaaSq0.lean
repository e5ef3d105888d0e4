/- ScopeNests: its programs, looked at. -/
import Derived.Test.YticbjhicjegfoaaSp
namespace Go.Proofs.Yticbjhicjegfoaa.Q
open Go.RowKit

set_option maxRecDepth 100000 in
theorem nests_9_0 : (List.range 64).all (fun m => nestChk 9 (0 + m)) = true := by decide +kernel
set_option maxRecDepth 100000 in
theorem nests_9_4 : (List.range 64).all (fun m => nestChk 9 (256 + m)) = true := by decide +kernel
set_option maxRecDepth 100000 in
theorem nests_8_0 : (List.range 64).all (fun m => nestChk 8 (0 + m)) = true := by decide +kernel
set_option maxRecDepth 100000 in
theorem nests_7_0 : (List.range 64).all (fun m => nestChk 7 (0 + m)) = true := by decide +kernel
end Go.Proofs.Yticbjhicjegfoaa.Q
