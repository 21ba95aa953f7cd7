/- Words of strokes: what is checked of them. -/
import Derived.Test.YtopjiafdimoeiaaPg2
namespace Go.Proofs.Ytopjiafdimoeiaa
open Go Go.Am Go.Proofs
set_option maxRecDepth 100000
structure Sk where
  act : Int
  out : Bool
  deriving DecidableEq
abbrev Sk.row (x : Sk) : List V := [.int .i64 x.act, .bool x.out]
abbrev words (w : List Sk) : V := .imm (w.map Sk.row)
abbrev num (n : Int) : V := .int .i64 n
abbrev bools (l : List Bool) : V := .imm (l.map fun b => [.bool b])
def okAct (n : Int) : Bool := decide (0 ≤ n) && decide (n < 6)
def skErr (x : Sk) : Int := if okAct x.act then 0 else 2
theorem ev164 (n : Int) : ev pg (.call (.fn 164 [] []) [num n] []) = some { v := .bool (okAct n), st := ⟨[], []⟩ } := by
  rw [ev_call, pg164]
  by_cases h : 0 ≤ n <;> simp [ir164, okAct, h]
theorem ev93 (n : Int) : ev pg (.call (.fn 93 [] []) [num n] []) = some { v := .bool (okAct n), st := ⟨[], []⟩ } := by
  rw [ev_call, pg93]
  by_cases h : 0 ≤ n <;> simp [ir93, okAct, h]
theorem ev135 (x : Sk) : ev pg (.call (.fn 135 [] []) [.agg x.row] []) = some { v := num (skErr x), st := ⟨[], []⟩ } := by
  have h1 := ev164 x.act
  rw [ev_call, pg135]
  by_cases h : okAct x.act = true <;> simp [ir135, pg164, ir164, h1, h, skErr]
theorem ev47 (x : Sk) : ev pg (.call (.fn 47 [] []) [.agg x.row] []) = some { v := num (skErr x), st := ⟨[], []⟩ } := by
  have h1 := ev93 x.act
  rw [ev_call, pg47]
  by_cases h : okAct x.act = true <;> simp [ir47, pg93, ir93, h1, h, skErr]
end Go.Proofs.Ytopjiafdimoeiaa
