/- ScopeNests: its programs, looked at. -/
import Derived.Test.YticbjhicjegfoaaSp
namespace Go.Proofs.Yticbjhicjegfoaa.Q
open Go.RowKit

set_option maxRecDepth 100000 in
theorem nests_9_1 : (List.range 64).all (fun m => nestChk 9 (64 + m)) = true := by decide +kernel
set_option maxRecDepth 100000 in
theorem nests_9_5 : (List.range 64).all (fun m => nestChk 9 (320 + m)) = true := by decide +kernel
set_option maxRecDepth 100000 in
theorem nests_8_1 : (List.range 64).all (fun m => nestChk 8 (64 + m)) = true := by decide +kernel
set_option maxRecDepth 100000 in
theorem nests_7_1 : (List.range 64).all (fun m => nestChk 7 (64 + m)) = true := by decide +kernel
end Go.Proofs.Yticbjhicjegfoaa.Q
