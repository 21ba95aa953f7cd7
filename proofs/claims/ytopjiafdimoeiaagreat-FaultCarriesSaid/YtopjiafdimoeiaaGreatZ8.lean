/- The examples of the law of fault; the law of injections holds of Am. -/
import Derived.Test.YtopjiafdimoeiaaGreatZ7
import Derived.KernelRfl
namespace Go.Proofs.YtopjiafdimoeiaaGreat
open Go Go.Am Go.Proofs
set_option maxRecDepth 1000000
abbrev hoV : V := .agg [.int .i64 1, .imm [[.str [103, 111]]], .imm [[.str [117, 112], .int .i64 0, .int .i64 1, .int .i64 2, .imm [], .int .i64 0, .int .i64 0, .imm [], .int .i64 0, .bool false], [.str [100, 111, 119, 110], .int .i64 0, .int .i64 2, .int .i64 0, .imm [[.int .i64 1, .int .i64 2, .imm []]], .int .i64 0, .int .i64 0, .imm [], .int .i64 0, .bool false]], .imm [[.int .i64 3]], .imm [[.int .i64 4]]]
abbrev hoA : V := .agg [.int .i64 1, .imm [[.str [103, 111]]], .imm [[.str [117, 112], .int .i64 0, .int .i64 0, .int .i64 1, .imm [], .int .i64 0, .int .i64 0, .imm [], .int .i64 0, .bool false], [.str [100, 111, 119, 110], .int .i64 0, .int .i64 2, .int .i64 0, .imm [[.int .i64 0, .int .i64 1, .imm []]], .int .i64 0, .int .i64 0, .imm [], .int .i64 0, .bool false]], .imm [[.int .i64 3]], .imm [[.int .i64 4]]]
abbrev hoB : V := .agg [.int .i64 1, .imm [[.str [103, 111]]], .imm [[.str [117, 112], .int .i64 0, .int .i64 1, .int .i64 2, .imm [], .int .i64 0, .int .i64 0, .imm [], .int .i64 0, .bool false], [.str [100, 111, 119, 110], .int .i64 0, .int .i64 2, .int .i64 0, .imm [[.int .i64 1, .int .i64 2, .imm []]], .int .i64 0, .int .i64 0, .imm [], .int .i64 0, .bool false], [.str [115, 116, 117, 99, 107, 48], .int .i64 0, .int .i64 0, .int .i64 0, .imm [], .int .i64 0, .int .i64 0, .imm [], .int .i64 0, .bool false]], .imm [[.int .i64 5]], .imm [[.int .i64 4]]]
theorem hoist_run : evN pg 1000 (.call (.fn 23 [] []) [] []) = some { v := hoV, st := ⟨[], []⟩ } := by kernel_rfl
theorem ev23 : ev pg (.call (.fn 23 [] []) [] []) = some { v := hoV, st := ⟨[], []⟩ } := ev_of hoist_run
def hoist : Ct := ⟨1, [[103, 111]], [⟨[117, 112], 0, .mk 1 2 [], .mk 0 0 [], 0, false⟩, ⟨[100, 111, 119, 110], 0, .mk 2 0 [.mk 1 2 []], .mk 0 0 [], 0, false⟩], [3], [4]⟩
theorem hoist_v : hoist.v = hoV := by kernel_rfl
theorem hoistA_v : (injD hoist 2 2).v = hoA := by kernel_rfl
theorem hoistB_v : (injD hoist 0 0).v = hoB := by kernel_rfl
theorem few0 : hoist.small = true := by kernel_rfl
theorem check0 : hoist.check = 0 := by kernel_rfl
theorem inj2 : injE hoist 2 2 = 0 := by kernel_rfl
theorem inj0 : injE hoist 0 0 = 0 := by kernel_rfl
theorem all0 : (allL hoist).length = 14 := by kernel_rfl
theorem touch0 : touchR hoist 2 2 = [3, 4] := by kernel_rfl
theorem touch1 : touchR hoist 0 0 = [5] := by kernel_rfl
theorem flt0 : fltE hoist 2 2 = 0 := by kernel_rfl
theorem flt1 : fltE hoist 0 0 = 0 := by kernel_rfl
theorem parse0 : parseV hoist [108, 105, 110, 101, 32, 117, 112, 32, 102, 97, 108, 115, 101] = ((3, 3), 0) := by kernel_rfl
theorem ev7 : ev pg (.call (.fn 7 [] []) [] []) = some { v := .bool true, st := ⟨[], []⟩ } := by
  have h66 := ev23
  have h15 := ev24 hoist few0
  have h28a := ev8 hoist few0 2 2
  have h28b := ev8 hoist few0 0 0
  have h17a := ev25 hoist few0 2 2
  have h17b := ev25 hoist few0 0 0
  have h25 := ev26 hoist few0 [108, 105, 110, 101, 32, 117, 112, 32, 102, 97, 108, 115, 101]
  have e1 := ev27 [3, 4] [3, 4] (by decide)
  have e2 := ev27 [5] [5] (by decide)
  have e3 := ev27 [4] [4] (by decide)
  have e1' : ev pg (.call (.fn 27 [] []) [ints [3, 4], .imm [[.int .i64 3], [.int .i64 4]]] []) = some { v := .bool true, st := ⟨[], []⟩ } := e1
  have e2' : ev pg (.call (.fn 27 [] []) [ints [5], .imm [[.int .i64 5]]] []) = some { v := .bool true, st := ⟨[], []⟩ } := e2
  have e2'' : ev pg (.call (.fn 27 [] []) [.imm [[.int .i64 5]], .imm [[.int .i64 5]]] []) = some { v := .bool true, st := ⟨[], []⟩ } := e2
  have e3' : ev pg (.call (.fn 27 [] []) [.imm [[.int .i64 4]], .imm [[.int .i64 4]]] []) = some { v := .bool true, st := ⟨[], []⟩ } := e3
  have hal := all0
  have w0 := wrap_id (n := 0) (by omega) (by omega)
  rw [check0] at h15
  rw [touch0, flt0] at h17a
  rw [touch1, flt1] at h17b
  rw [parse0] at h25
  rw [inj2, hoistA_v] at h28a
  rw [inj0, hoistB_v] at h28b
  generalize allL hoist = L at *
  rw [hoist_v] at h15 h28a h28b h17a h17b h25
  rw [ev_call, pg7]
  simp [ir7, h66, h15, h28a, h28b, h17a, h17b, h25, hal, e1', e2', e2'', e3', w0]
set_option maxRecDepth 100000
end Go.Proofs.YtopjiafdimoeiaaGreat
