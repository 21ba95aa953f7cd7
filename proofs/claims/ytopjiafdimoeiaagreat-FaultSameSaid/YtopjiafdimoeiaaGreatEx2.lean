/- Expressions, by the reference: depth, light ones, errors. -/
import Derived.Test.YtopjiafdimoeiaaGreatEx1
namespace Go.Proofs.YtopjiafdimoeiaaGreat
open Go Go.Am Go.Proofs
set_option maxRecDepth 100000
theorem args_few {x : Ex} (h : x.nodes ≤ 256) : x.args.length ≤ 255 := by
  have h1 := nodesL_len x.args
  have h2 := nodes_eq x
  omega
theorem args_nodes {x y : Ex} (h : x.nodes ≤ 256) (hy : y ∈ x.args) : y.nodes ≤ 256 := by
  have h1 := nodes_mem hy
  have h2 := nodes_eq x
  omega
def I111 (x : Ex) (m k : Nat) (st : St) : Prop := st.h = [⟨0, .box x.cells⟩] ∧ st.s.length = 30 ∧ getS st.s 1 = num (m + 2 : Nat) ∧ getS st.s 2 = .bptr 0 0 ∧ getS st.s 5 = num k ∧ ∀ j y, j < k → x.args[j]? = some y → y.depth ≤ m + 1
def Q111 (x : Ex) (m : Nat) (r : R) : Prop := r.st.s.length = 30 ∧ ((r.x = .exit 0 ∧ x.depth ≤ m + 2) ∨ (r.x = .ret ∧ getS r.st.s 4 = .bool false ∧ ¬ x.depth ≤ m + 2))
theorem depth_args {x : Ex} {m : Nat} : x.depth ≤ m + 2 ↔ ∀ y ∈ x.args, y.depth ≤ m + 1 := by
  rw [depth_eq, ← depthL_le (l := x.args)]
  omega
theorem loop111 (x : Ex) (m : Nat) (hm : m ≤ 256) (hx : x.nodes ≤ 256) (ih : ∀ y ∈ x.args, ∀ m : Nat, m ≤ 257 → y.nodes ≤ 256 → ev pg (.call (.fn 54 [] []) [y.v, num m] []) = some { v := .bool (decide (y.depth ≤ m)), st := ⟨[], []⟩ }) (st : St) (h0 : I111 x m 0 st) : ∃ r, ev pg (.code (.going 1 L54_0) st) = some r ∧ Q111 x m r := by
  have hfew := args_few hx
  refine loop_from (I111 x m) x.args.length (Q111 x m) h0 ?_ ?_
  · rintro k ⟨s, h⟩ hk ⟨rfl, hl, e1, e2, e5, he⟩
    simp only at hl e1 e2 e5
    have hk' : (k : Int) < x.args.length := by omega
    have wk := wrap_id (n := (k : Int) + 1) (by omega) (by omega)
    have hmem := List.getElem_mem hk
    have hc := ih x.args[k] hmem (m + 1) (by omega) (args_nodes hx hmem)
    have hsub : (m : Int) + 2 - 1 = (m : Int) + 1 := by omega
    have ws := wrap_id (n := (m : Int) + 1) (by omega) (by omega)
    simp at hc
    rw [getS_expand hl]
    by_cases hd : x.args[k].depth ≤ m + 1
    · simp [L54_0, I111, List.range, List.range.loop, e1, e2, e5, hk, hk', hsub, ws, hc, hd, wk]
      intro j y hj hy
      by_cases hjk : j = k
      · subst hjk
        rw [List.getElem?_eq_getElem hk] at hy
        cases hy
        exact hd
      · exact he j y (by omega) hy
    · have hno : ¬ x.depth ≤ m + 2 := fun h => hd (depth_args.1 h _ hmem)
      simp [L54_0, I111, Q111, List.range, List.range.loop, e1, e2, e5, hk, hk', hsub, ws, hc, hd]
      omega
  · rintro ⟨s, h⟩ ⟨rfl, hl, e1, e2, e5, he⟩
    simp only at hl e1 e2 e5
    have hyes : x.depth ≤ m + 2 := depth_args.2 fun y hy => by
      obtain ⟨j, hj⟩ := List.mem_iff_getElem?.1 hy
      exact he j y (List.getElem?_eq_some_iff.1 hj).1 hj
    rw [getS_expand hl]
    simp [L54_0, Q111, List.range, List.range.loop, e1, e2, e5, hyes]
theorem ev54 : ∀ (x : Ex) (m : Nat), m ≤ 257 → x.nodes ≤ 256 → ev pg (.call (.fn 54 [] []) [x.v, num m] []) = some { v := .bool (decide (x.depth ≤ m)), st := ⟨[], []⟩ } := by
  refine Ex.ind fun x ih m hm hx => ?_
  have hp := depth_pos x
  rw [ev_call, pg54]
  match m with
  | 0 =>
    have : ¬ x.depth ≤ 0 := by omega
    simp [ir54, this]
  | 1 =>
    have h1 : x.depth ≤ 1 ↔ x.args = [] := by
      rw [depth_eq]
      constructor
      · intro h
        match hl : x.args with
        | [] => rfl
        | y :: l =>
          rw [hl, depthL] at h
          have := depth_pos y
          omega
      · intro h; rw [h]; simp [depthL]
    by_cases h2 : x.args = []
    · simp [ir54, h1, h2]
    · have h3 : ¬ x.args.length = 0 := fun e => h2 (List.length_eq_zero_iff.1 e)
      have h4 : ((x.args.length : Int) == 0) = false := by simp; exact h2
      simp [ir54, h1, h2]
  | m + 2 =>
    have hlt : ¬ ((m : Int) + 2 < 1) := by omega
    have hne : ¬ ((m : Int) + 2 = 1) := by omega
    have hne' : ((m : Int) + 2 == 1) = false := by simpa using hne
    simp [ir54, hlt, hne', ev_loop]
    generalize hr : ev pg (.code (.going 1 L54_0) _) = o
    obtain ⟨r, rfl, hl, hQ⟩ : ∃ r, o = some r ∧ Q111 x m r := by
      rw [← hr]
      exact loop111 x m (by omega) hx ih _ ⟨by simp, by simp, by simp, by simp, by simp, fun j y hj _ => by omega⟩
    rcases hQ with ⟨hx, hE⟩ | ⟨hx, h4, hE⟩
    · simp [hx, hl, hE]
    · simp [hx, h4, hE]
def Ex.light (x : Ex) : Bool := decide (x.nodes ≤ 256) && decide (x.depth ≤ 16)
theorem ev22 (x : Ex) : ev pg (.call (.fn 22 [] []) [x.v] []) = some { v := .bool x.light, st := ⟨[], []⟩ } := by
  have h1 := ev53 x 256 (by omega)
  rw [ev_call, pg22]
  by_cases h : x.nodes ≤ 256
  · have h2 := ev54 x 16 (by omega) h
    have h3 : min x.nodes (256 + 1) = x.nodes := by omega
    have h4 : (x.nodes : Int) ≤ 256 := by omega
    rw [h3] at h1
    simp at h1 h2
    simp [ir22, Ex.light, h1, h2, h, h4]
  · have h3 : min x.nodes (256 + 1) = 257 := by omega
    rw [h3] at h1
    simp at h1
    simp [ir22, Ex.light, h1, h]
/-! ### errors -/
def nodeE (o i : Int) (k : Nat) (n : Int) : Int :=
  if o < 0 ∨ 5 ≤ o then 1 else if (o ≤ 1 ∧ k ≠ 0) ∨ (o = 2 ∧ k ≠ 1) ∨ (3 ≤ o ∧ k < 2) then 3 else if i < 0 ∨ (if o = 0 then 2 else if o = 1 then n else 1) ≤ i then 2 else 0
theorem ev130' (o i n : Int) (l : List Ex) : ev pg (.call (.fn 130 [] []) [.agg [num o, num i, .imm (l.map Ex.row)], num n] []) = some { v := num (nodeE o i l.length n), st := ⟨[], []⟩ } := by
  rw [ev_call, pg130]
  by_cases h1 : o < 0
  · simp [ir130, nodeE, h1]
  by_cases h2 : 5 ≤ o
  · simp [ir130, nodeE, h1, h2]
  have hl2 : ((l.length : Int) < 2) ↔ l.length < 2 := by omega
  have hl1 : ((l.length : Int) = 1) ↔ l.length = 1 := by omega
  rcases (by omega : o = 0 ∨ o = 1 ∨ o = 2 ∨ o = 3 ∨ o = 4) with rfl | rfl | rfl | rfl | rfl
  · by_cases h3 : l.length = 0
    · by_cases h4 : i < 0
      · simp [ir130, nodeE, h3, h4]
      · by_cases h5 : 2 ≤ i <;> simp [ir130, nodeE, h3, h4, h5]
    · have h3' : ((l.length : Int) != 0) = true := by simp; simpa using h3
      simp [ir130, nodeE, h3, h3']
  · by_cases h3 : l.length = 0
    · by_cases h4 : i < 0
      · simp [ir130, nodeE, h3, h4]
      · by_cases h5 : n ≤ i <;> simp [ir130, nodeE, h3, h4, h5]
    · have h3' : ((l.length : Int) != 0) = true := by simp; simpa using h3
      simp [ir130, nodeE, h3, h3']
  · by_cases h3 : l.length = 1
    · by_cases h4 : i < 0
      · simp [ir130, nodeE, h3, h4]
      · by_cases h5 : 1 ≤ i <;> simp [ir130, nodeE, h3, h4, h5]
    · have h3' : ((l.length : Int) != 1) = true := by simp; omega
      simp [ir130, nodeE, h3, h3']
  · by_cases h3 : l.length < 2
    · simp [ir130, nodeE, h3, hl2]
    · by_cases h4 : i < 0
      · simp [ir130, nodeE, h3, hl2, h4]
      · by_cases h5 : 1 ≤ i <;> simp [ir130, nodeE, h3, hl2, h4, h5]
  · by_cases h3 : l.length < 2
    · simp [ir130, nodeE, h3, hl2]
    · by_cases h4 : i < 0
      · simp [ir130, nodeE, h3, hl2, h4]
      · by_cases h5 : 1 ≤ i <;> simp [ir130, nodeE, h3, hl2, h4, h5]
theorem ev130 (x : Ex) (n : Int) : ev pg (.call (.fn 130 [] []) [x.v, num n] []) = some { v := num (nodeE x.op x.idx x.args.length n), st := ⟨[], []⟩ } := ev130' x.op x.idx n x.args
mutual
def Ex.err (n : Int) : Ex → Int
  | .mk o i l => if nodeE o i l.length n = 0 then errL n l else nodeE o i l.length n
def errL (n : Int) : List Ex → Int
  | [] => 0
  | x :: l => if x.err n = 0 then errL n l else x.err n
end
theorem err_eq (n : Int) (x : Ex) : x.err n = if nodeE x.op x.idx x.args.length n = 0 then errL n x.args else nodeE x.op x.idx x.args.length n := by cases x; rw [Ex.err]; rfl
theorem errL_at {n : Int} {l : List Ex} {k : Nat} (hk : k < l.length) : errL n (l.drop k) = if l[k].err n = 0 then errL n (l.drop (k + 1)) else l[k].err n := by
  rw [List.drop_eq_getElem_cons hk, errL]
def I185 (x : Ex) (n : Int) (k : Nat) (st : St) : Prop := st.h = [⟨0, .box x.cells⟩] ∧ st.s.length = 31 ∧ getS st.s 1 = num n ∧ getS st.s 2 = .bptr 0 0 ∧ getS st.s 6 = num k ∧ errL n x.args = errL n (x.args.drop k)
def Q185 (x : Ex) (n : Int) (r : R) : Prop := r.st.s.length = 31 ∧ ((r.x = .exit 0 ∧ errL n x.args = 0) ∨ (r.x = .ret ∧ getS r.st.s 4 = num (errL n x.args)))
theorem loop185 (x : Ex) (n : Int) (hx : x.nodes ≤ 256) (ih : ∀ y ∈ x.args, y.nodes ≤ 256 → ev pg (.call (.fn 120 [] []) [y.v, num n] []) = some { v := num (y.err n), st := ⟨[], []⟩ }) (st : St) (h0 : I185 x n 0 st) : ∃ r, ev pg (.code (.going 1 L120_0) st) = some r ∧ Q185 x n r := by
  have hfew := args_few hx
  refine loop_from (I185 x n) x.args.length (Q185 x n) h0 ?_ ?_
  · rintro k ⟨s, h⟩ hk ⟨rfl, hl, e1, e2, e6, he⟩
    simp only at hl e1 e2 e6
    have hk' : (k : Int) < x.args.length := by omega
    have wk := wrap_id (n := (k : Int) + 1) (by omega) (by omega)
    have hmem := List.getElem_mem hk
    have hc := ih x.args[k] hmem (args_nodes hx hmem)
    rw [errL_at hk] at he
    rw [getS_expand hl]
    by_cases hd : x.args[k].err n = 0
    · rw [if_pos hd] at he
      simp [L120_0, I185, List.range, List.range.loop, e1, e2, e6, hk, hk', hc, hd, wk, he]
    · rw [if_neg hd] at he
      simp [L120_0, I185, Q185, List.range, List.range.loop, e1, e2, e6, hk, hk', hc, hd, he]
  · rintro ⟨s, h⟩ ⟨rfl, hl, e1, e2, e6, he⟩
    simp only [List.drop_length] at hl e1 e2 e6 he
    rw [getS_expand hl]
    simp [L120_0, Q185, List.range, List.range.loop, e1, e2, e6, he, errL]
theorem ev120 (n : Int) : ∀ x : Ex, x.nodes ≤ 256 → ev pg (.call (.fn 120 [] []) [x.v, num n] []) = some { v := num (x.err n), st := ⟨[], []⟩ } := by
  refine Ex.ind fun x ih hx => ?_
  have hc := ev130 x n
  rw [ev_call, pg120, err_eq]
  by_cases h : nodeE x.op x.idx x.args.length n = 0
  · simp [ir120, hc, h, ev_loop]
    generalize hr : ev pg (.code (.going 1 L120_0) _) = o
    obtain ⟨r, rfl, hl, hQ⟩ : ∃ r, o = some r ∧ Q185 x n r := by
      rw [← hr]
      exact loop185 x n hx ih _ (by simp [I185])
    rcases hQ with ⟨hx, hE⟩ | ⟨hx, h4⟩
    · simp [hx, hl, hE]
    · simp [hx, h4]
  · simp [ir120, hc, h]
def Ex.check (x : Ex) (n : Int) : Int := if n < 0 ∨ 256 < n then 2 else if x.light = true then x.err n else 5
theorem light_nodes {x : Ex} (h : x.light = true) : x.nodes ≤ 256 ∧ x.depth ≤ 16 := by simpa [Ex.light] using h
theorem ev102 (x : Ex) (n : Int) : ev pg (.call (.fn 102 [] []) [x.v, num n] []) = some { v := num (x.check n), st := ⟨[], []⟩ } := by
  have hl := ev22 x
  rw [ev_call, pg102]
  by_cases h1 : n < 0
  · simp [ir102, Ex.check, h1]
  · by_cases h2 : 256 < n
    · simp [ir102, Ex.check, h1, h2]
    · by_cases h3 : x.light = true
      · have hc := ev120 n x (light_nodes h3).1
        simp [ir102, Ex.check, h1, h2, hl, h3, hc]
      · simp [ir102, Ex.check, h1, h2, hl, h3]
end Go.Proofs.YtopjiafdimoeiaaGreat
