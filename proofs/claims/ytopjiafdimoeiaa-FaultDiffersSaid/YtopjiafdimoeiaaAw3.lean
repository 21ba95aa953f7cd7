/- The examples of the law of fault: an injection, run by Am. -/
import Derived.Test.YtopjiafdimoeiaaAw2
namespace Go.Proofs.Ytopjiafdimoeiaa
open Go Go.Am Go.Proofs
set_option maxRecDepth 1000000
abbrev hoB : V := .agg [.int .i64 1, .imm [[.str [103, 111]]], .imm [[.str [117, 112], .int .i64 0, .int .i64 1, .int .i64 2, .imm [], .int .i64 0, .int .i64 0, .imm [], .int .i64 0, .bool false], [.str [100, 111, 119, 110], .int .i64 0, .int .i64 2, .int .i64 0, .imm [[.int .i64 1, .int .i64 2, .imm []]], .int .i64 0, .int .i64 0, .imm [], .int .i64 0, .bool false], [.str [115, 116, 117, 99, 107, 48], .int .i64 0, .int .i64 0, .int .i64 0, .imm [], .int .i64 0, .int .i64 0, .imm [], .int .i64 0, .bool false]], .imm [[.int .i64 5]], .imm [[.int .i64 4]]]
theorem faulty_runB : evN pg 1000 (.call (.fn 83 [] []) [hoV, .agg [.int .i64 0, .int .i64 0]] []) = some { v := .tup [hoB, .imm [[.bool false]]], st := ⟨[], []⟩ } := by kernel_rfl
theorem faultyB : ev pg (.call (.fn 83 [] []) [hoV, .agg [.int .i64 0, .int .i64 0]] []) = some { v := .tup [hoB, .imm [[.bool false]]], st := ⟨[], []⟩ } := ev_of faulty_runB
end Go.Proofs.Ytopjiafdimoeiaa
