/- The examples of the law of fault. -/
import Derived.Test.YtopjiafdimoeiaaAw3
import Derived.Test.YtopjiafdimoeiaaTe2
import Derived.KernelRfl
namespace Go.Proofs.Ytopjiafdimoeiaa
open Go Go.Am Go.Proofs
set_option maxRecDepth 100000
def hoist : Ct := ⟨1, [[103, 111]], [⟨[117, 112], 0, .mk 1 2 [], .mk 0 0 [], 0, false⟩, ⟨[100, 111, 119, 110], 0, .mk 2 0 [.mk 1 2 []], .mk 0 0 [], 0, false⟩], [3], [4]⟩
def hoistA : Ct := ⟨1, [[103, 111]], [⟨[117, 112], 0, .mk 0 1 [], .mk 0 0 [], 0, false⟩, ⟨[100, 111, 119, 110], 0, .mk 2 0 [.mk 0 1 []], .mk 0 0 [], 0, false⟩], [3], [4]⟩
def hoistB : Ct := ⟨1, [[103, 111]], [⟨[117, 112], 0, .mk 1 2 [], .mk 0 0 [], 0, false⟩, ⟨[100, 111, 119, 110], 0, .mk 2 0 [.mk 1 2 []], .mk 0 0 [], 0, false⟩, ⟨[115, 116, 117, 99, 107, 48], 0, .mk 0 0 [], .mk 0 0 [], 0, false⟩], [5], [4]⟩
theorem hoist_v : hoist.v = hoV := by kernel_rfl
theorem hoistA_v : hoistA.v = hoA := by kernel_rfl
theorem hoistB_v : hoistB.v = hoB := by kernel_rfl
theorem few0 : hoist.small = true := by kernel_rfl
theorem fewA : hoistA.small = true := by kernel_rfl
theorem fewB : hoistB.small = true := by kernel_rfl
theorem check0 : hoist.check = 0 := by kernel_rfl
theorem checkA : hoistA.check = 0 := by kernel_rfl
theorem checkB : hoistB.check = 0 := by kernel_rfl
theorem all0 : (allL hoist).length = 14 := by kernel_rfl
theorem touch0 : touchR hoist 2 2 = [3, 4] := by kernel_rfl
theorem touch1 : touchR hoist 0 0 = [5] := by kernel_rfl
theorem flt0 : fltE hoist 2 2 = 0 := by kernel_rfl
theorem flt1 : fltE hoist 0 0 = 0 := by kernel_rfl
theorem parse0 : parseV hoist [108, 105, 110, 101, 32, 117, 112, 32, 102, 97, 108, 115, 101] = ((3, 3), 0) := by kernel_rfl
theorem injA : ev pg (.call (.fn 28 [] []) [hoist.v, fv 2 2] []) = some { v := .tup [hoistA.v, num 0], st := ⟨[], []⟩ } := by
  have h19 := ev19 hoist few0 2 2
  have h83 := faultyA
  have h29 := ev29 hoistA fewA
  rw [flt0] at h19
  rw [checkA, hoistA_v] at h29
  rw [hoist_v] at h19 ⊢
  rw [hoistA_v]
  rw [ev_call, pg28]
  simp [ir28, h19, h83, h29]
theorem injB : ev pg (.call (.fn 28 [] []) [hoist.v, fv 0 0] []) = some { v := .tup [hoistB.v, num 0], st := ⟨[], []⟩ } := by
  have h19 := ev19 hoist few0 0 0
  have h83 := faultyB
  have h29 := ev29 hoistB fewB
  rw [flt1] at h19
  rw [checkB, hoistB_v] at h29
  rw [hoist_v] at h19 ⊢
  rw [hoistB_v]
  rw [ev_call, pg28]
  simp [ir28, h19, h83, h29]
theorem eq38 : evN pg 100 (.call (.fn 38 [] []) [ints [3, 4], .imm [[.int .i64 3], [.int .i64 4]]] []) = some { v := .bool true, st := ⟨[], []⟩ } := by kernel_rfl
theorem eq38a : evN pg 100 (.call (.fn 38 [] []) [.imm [[.int .i64 5]], .imm [[.int .i64 5]]] []) = some { v := .bool true, st := ⟨[], []⟩ } := by kernel_rfl
theorem eq38b : evN pg 100 (.call (.fn 38 [] []) [.imm [[.int .i64 4]], .imm [[.int .i64 4]]] []) = some { v := .bool true, st := ⟨[], []⟩ } := by kernel_rfl
theorem eq38d : evN pg 100 (.call (.fn 38 [] []) [ints [5], .imm [[.int .i64 5]]] []) = some { v := .bool true, st := ⟨[], []⟩ } := by kernel_rfl
theorem ev14 : ev pg (.call (.fn 14 [] []) [] []) = some { v := .bool true, st := ⟨[], []⟩ } := by
  have h66 := ev66
  have h15 := ev15 hoist few0
  have h28a := injA
  have h28b := injB
  have h17a := ev17 hoist few0 2 2
  have h17b := ev17 hoist few0 0 0
  have h25 := ev25 hoist few0 [108, 105, 110, 101, 32, 117, 112, 32, 102, 97, 108, 115, 101]
  have e1 := ev_of eq38
  have e2 := ev_of eq38a
  have e3 := ev_of eq38b
  have e4 := ev_of eq38d
  have hal := all0
  have w0 := wrap_id (n := 0) (by omega) (by omega)
  rw [check0] at h15
  rw [touch0, flt0] at h17a
  rw [touch1, flt1] at h17b
  rw [parse0] at h25
  generalize allL hoist = L at *
  rw [hoist_v] at h15 h28a h28b h17a h17b h25
  rw [hoistA_v] at h28a
  rw [hoistB_v] at h28b
  rw [ev_call, pg14]
  simp [ir14, h66, h15, h28a, h28b, h17a, h17b, h25, hal, e1, e2, e3, e4, w0]
end Go.Proofs.Ytopjiafdimoeiaa
