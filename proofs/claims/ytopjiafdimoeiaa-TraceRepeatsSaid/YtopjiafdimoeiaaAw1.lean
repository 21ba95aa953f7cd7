/- The examples of the law of trace, run by Am. -/
import Derived.Test.YtopjiafdimoeiaaPg2
namespace Go.Proofs.Ytopjiafdimoeiaa
open Go Go.Am Go.Proofs
set_option maxRecDepth 1000000
theorem awake_run : evN pg 500 (.call (.fn 40 [] []) [] []) = some { v := .bool true, st := ⟨[], []⟩ } := by kernel_rfl
theorem awake_ev : ev pg (.call (.fn 40 [] []) [] []) = some { v := .bool true, st := ⟨[], []⟩ } := ev_of awake_run
end Go.Proofs.Ytopjiafdimoeiaa
