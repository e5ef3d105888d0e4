/- ScopeNests: its programs, looked at. -/
import Derived.Test.YticbjhicjegfoaaSp
namespace Go.Proofs.Yticbjhicjegfoaa.Q
open Go.RowKit

set_option maxRecDepth 100000 in
theorem nests_9_2 : (List.range 64).all (fun m => nestChk 9 (128 + m)) = true := by decide +kernel
set_option maxRecDepth 100000 in
theorem nests_9_6 : (List.range 64).all (fun m => nestChk 9 (384 + m)) = true := by decide +kernel
set_option maxRecDepth 100000 in
theorem nests_8_2 : (List.range 64).all (fun m => nestChk 8 (128 + m)) = true := by decide +kernel
set_option maxRecDepth 100000 in
theorem nests_6_0 : (List.range 64).all (fun m => nestChk 6 (0 + m)) = true := by decide +kernel
end Go.Proofs.Yticbjhicjegfoaa.Q
