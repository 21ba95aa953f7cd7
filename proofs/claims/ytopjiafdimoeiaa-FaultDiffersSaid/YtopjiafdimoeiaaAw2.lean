/- The examples of the law of fault: an injection, run by Am. -/
import Derived.Test.YtopjiafdimoeiaaPg3
namespace Go.Proofs.Ytopjiafdimoeiaa
open Go Go.Am Go.Proofs
set_option maxRecDepth 1000000
abbrev hoV : V := .agg [.int .i64 1, .imm [[.str [103, 111]]], .imm [[.str [117, 112], .int .i64 0, .int .i64 1, .int .i64 2, .imm [], .int .i64 0, .int .i64 0, .imm [], .int .i64 0, .bool false], [.str [100, 111, 119, 110], .int .i64 0, .int .i64 2, .int .i64 0, .imm [[.int .i64 1, .int .i64 2, .imm []]], .int .i64 0, .int .i64 0, .imm [], .int .i64 0, .bool false]], .imm [[.int .i64 3]], .imm [[.int .i64 4]]]
abbrev hoA : V := .agg [.int .i64 1, .imm [[.str [103, 111]]], .imm [[.str [117, 112], .int .i64 0, .int .i64 0, .int .i64 1, .imm [], .int .i64 0, .int .i64 0, .imm [], .int .i64 0, .bool false], [.str [100, 111, 119, 110], .int .i64 0, .int .i64 2, .int .i64 0, .imm [[.int .i64 0, .int .i64 1, .imm []]], .int .i64 0, .int .i64 0, .imm [], .int .i64 0, .bool false]], .imm [[.int .i64 3]], .imm [[.int .i64 4]]]
theorem hoist_run : evN pg 1000 (.call (.fn 66 [] []) [] []) = some { v := hoV, st := ⟨[], []⟩ } := by kernel_rfl
theorem ev66 : ev pg (.call (.fn 66 [] []) [] []) = some { v := hoV, st := ⟨[], []⟩ } := ev_of hoist_run
theorem faulty_runA : evN pg 1000 (.call (.fn 83 [] []) [hoV, .agg [.int .i64 2, .int .i64 2]] []) = some { v := .tup [hoA, .imm []], st := ⟨[], []⟩ } := by kernel_rfl
theorem faultyA : ev pg (.call (.fn 83 [] []) [hoV, .agg [.int .i64 2, .int .i64 2]] []) = some { v := .tup [hoA, .imm []], st := ⟨[], []⟩ } := ev_of faulty_runA
end Go.Proofs.Ytopjiafdimoeiaa
