/- Expressions, by the program: a node alone. -/
import Derived.Test.YtopjiafdimoeiaaGreatEx2
namespace Go.Proofs.YtopjiafdimoeiaaGreat
open Go Go.Am Go.Proofs
set_option maxRecDepth 100000
theorem ev125' (o i n : Int) (l : List Ex) (hl : l.length ≤ 256) (hn : 0 ≤ n ∧ n ≤ 256) : ev pg (.call (.fn 125 [] []) [.agg [num o, num i, .imm (l.map Ex.row)], num n] []) = some { v := num (nodeE o i l.length n), st := ⟨[], []⟩ } := by
  have wn := wrap_id (n := n - 1) (by omega) (by omega)
  rw [ev_call, pg125]
  by_cases h1 : o < 0
  · simp [ir125, nodeE, h1]
  by_cases h2 : 5 ≤ o
  · simp [ir125, nodeE, h1, h2]
  have hl2 : ((l.length : Int) < 2) ↔ l.length < 2 := by omega
  have hneg : ¬ ((l.length : Int) < 0) := by omega
  have hg256 : ¬ ((256 : Int) < (l.length : Int)) := by omega
  rcases (by omega : o = 0 ∨ o = 1 ∨ o = 2 ∨ o = 3 ∨ o = 4) with rfl | rfl | rfl | rfl | rfl
  · by_cases h3 : l.length = 0
    · by_cases h4 : i < 0
      · simp [ir125, ev_call, ir126, ir134, ev_draw1, exT, chkOk, nodeE, h3, h4]
      · by_cases h5 : 1 < i
        · have h6 : 2 ≤ i := by omega
          simp [ir125, ev_call, ir126, ir134, ev_draw1, exT, chkOk, nodeE, h3, h4, h5, h6]
        · have h6 : ¬ (2 ≤ i) := by omega
          simp [ir125, ev_call, ir126, ir134, ev_draw1, exT, chkOk, nodeE, h3, h4, h5, h6]
    · have h3' : 0 < l.length := by omega
      have h3n : l ≠ [] := fun e => h3 (by rw [e]; rfl)
      simp [ir125, ev_call, ir126, ir134, ev_draw1, exT, chkOk, nodeE, h3, h3', hneg]
  · by_cases h3 : l.length = 0
    · by_cases h4 : i < 0
      · simp [ir125, ev_call, ir126, ir134, ev_draw1, exT, chkOk, nodeE, h3, h4, wn]
      · by_cases h5 : n - 1 < i
        · have h6 : n ≤ i := by omega
          simp [ir125, ev_call, ir126, ir134, ev_draw1, exT, chkOk, nodeE, h3, h4, h5, h6, wn]
        · have h6 : ¬ (n ≤ i) := by omega
          simp [ir125, ev_call, ir126, ir134, ev_draw1, exT, chkOk, nodeE, h3, h4, h5, h6, wn]
    · have h3' : 0 < l.length := by omega
      have h3n : l ≠ [] := fun e => h3 (by rw [e]; rfl)
      simp [ir125, ev_call, ir126, ir134, ev_draw1, exT, chkOk, nodeE, h3, h3', hneg]
  · by_cases h3 : l.length = 1
    · by_cases h4 : i < 0
      · simp [ir125, ev_call, ir126, ir134, ev_draw1, exT, chkOk, nodeE, h3, h4]
      · by_cases h5 : 0 < i
        · have h6 : 1 ≤ i := by omega
          simp [ir125, ev_call, ir126, ir134, ev_draw1, exT, chkOk, nodeE, h3, h4, h5, h6]
        · have h6 : ¬ (1 ≤ i) := by omega
          simp [ir125, ev_call, ir126, ir134, ev_draw1, exT, chkOk, nodeE, h3, h4, h5, h6]
    · have h3' : ((l.length : Int) < 1) ∨ ¬ ((l.length : Int) < 1) ∧ (1 : Int) < (l.length : Int) := by omega
      rcases h3' with h3' | ⟨h3', h3n⟩
      · simp [ir125, ev_call, ir126, ir134, ev_draw1, exT, chkOk, nodeE, h3, h3']
      · simp [ir125, ev_call, ir126, ir134, ev_draw1, exT, chkOk, nodeE, h3, h3', h3n]
  · by_cases h3 : l.length < 2
    · simp [ir125, ev_call, ir126, ir134, ev_draw1, exT, chkOk, nodeE, h3, hl2]
    · by_cases h4 : i < 0
      · simp [ir125, ev_call, ir126, ir134, ev_draw1, exT, chkOk, nodeE, h3, h4, hl2, hg256]
      · by_cases h5 : 0 < i
        · have h6 : 1 ≤ i := by omega
          simp [ir125, ev_call, ir126, ir134, ev_draw1, exT, chkOk, nodeE, h3, h4, h5, h6, hl2, hg256]
        · have h6 : ¬ (1 ≤ i) := by omega
          simp [ir125, ev_call, ir126, ir134, ev_draw1, exT, chkOk, nodeE, h3, h4, h5, h6, hl2, hg256]
  · by_cases h3 : l.length < 2
    · simp [ir125, ev_call, ir126, ir134, ev_draw1, exT, chkOk, nodeE, h3, hl2]
    · by_cases h4 : i < 0
      · simp [ir125, ev_call, ir126, ir134, ev_draw1, exT, chkOk, nodeE, h3, h4, hl2, hg256]
      · by_cases h5 : 0 < i
        · have h6 : 1 ≤ i := by omega
          simp [ir125, ev_call, ir126, ir134, ev_draw1, exT, chkOk, nodeE, h3, h4, h5, h6, hl2, hg256]
        · have h6 : ¬ (1 ≤ i) := by omega
          simp [ir125, ev_call, ir126, ir134, ev_draw1, exT, chkOk, nodeE, h3, h4, h5, h6, hl2, hg256]
theorem ev125 (x : Ex) (n : Int) (hx : x.nodes ≤ 256) (hn : 0 ≤ n ∧ n ≤ 256) : ev pg (.call (.fn 125 [] []) [x.v, num n] []) = some { v := num (nodeE x.op x.idx x.args.length n), st := ⟨[], []⟩ } := ev125' x.op x.idx n x.args (by have := args_few hx; omega) hn
end Go.Proofs.YtopjiafdimoeiaaGreat
