/- Expressions: how many nodes they have, and how deep they are, by the reference. -/
import Derived.Test.YtopjiafdimoeiaaGreatPg3
namespace Go.Proofs.YtopjiafdimoeiaaGreat
open Go Go.Am Go.Proofs
set_option maxRecDepth 100000
abbrev num (n : Int) : V := .int .i64 n
inductive Ex where
  | mk (op idx : Int) (args : List Ex)
def Ex.op : Ex → Int
  | .mk o _ _ => o
def Ex.idx : Ex → Int
  | .mk _ i _ => i
def Ex.args : Ex → List Ex
  | .mk _ _ l => l
mutual
def Ex.row : Ex → List V
  | .mk o i l => [num o, num i, .imm (rowsX l)]
def rowsX : List Ex → List (List V)
  | [] => []
  | x :: l => x.row :: rowsX l
end
theorem rowsX_map : ∀ l : List Ex, rowsX l = l.map Ex.row
  | [] => rfl
  | x :: l => by rw [rowsX, rowsX_map l]; rfl
abbrev Ex.cells (x : Ex) : List V := [num x.op, num x.idx, .imm (x.args.map Ex.row)]
abbrev Ex.v (x : Ex) : V := .agg x.cells
@[simp] theorem row_eq (x : Ex) : x.row = x.cells := by
  cases x with
  | mk o i l => rw [Ex.row, rowsX_map]; rfl
theorem ex_lt {x y : Ex} (h : y ∈ x.args) : SizeOf.sizeOf y < SizeOf.sizeOf x := by
  cases x with
  | mk o i l =>
    have := List.sizeOf_lt_of_mem (show y ∈ l from h)
    simp only [Ex.mk.sizeOf_spec]
    omega
theorem Ex.ind {P : Ex → Prop} (h : ∀ x, (∀ y ∈ x.args, P y) → P x) : ∀ x, P x := by
  have : ∀ n (x : Ex), SizeOf.sizeOf x < n → P x := by
    intro n
    induction n with
    | zero => intro x hx; omega
    | succ n ih => exact fun x hx => h x fun y hy => ih y (by have := ex_lt hy; omega)
  exact fun x => this _ x (Nat.lt_succ_self _)
mutual
def Ex.nodes : Ex → Nat
  | .mk _ _ l => 1 + nodesL l
def nodesL : List Ex → Nat
  | [] => 0
  | x :: l => x.nodes + nodesL l
end
mutual
def Ex.depth : Ex → Nat
  | .mk _ _ l => 1 + depthL l
def depthL : List Ex → Nat
  | [] => 0
  | x :: l => max x.depth (depthL l)
end
theorem nodes_eq (x : Ex) : x.nodes = 1 + nodesL x.args := by cases x; rw [Ex.nodes]; rfl
theorem depth_eq (x : Ex) : x.depth = 1 + depthL x.args := by cases x; rw [Ex.depth]; rfl
theorem nodes_pos (x : Ex) : 1 ≤ x.nodes := by rw [nodes_eq]; omega
theorem depth_pos (x : Ex) : 1 ≤ x.depth := by rw [depth_eq]; omega
theorem nodesL_append : ∀ a b : List Ex, nodesL (a ++ b) = nodesL a + nodesL b
  | [], b => by simp [nodesL]
  | x :: a, b => by rw [List.cons_append, nodesL, nodesL, nodesL_append a b, Nat.add_assoc]
theorem nodesL_take {l : List Ex} {k : Nat} (hk : k < l.length) : nodesL (l.take (k + 1)) = nodesL (l.take k) + l[k].nodes := by
  rw [List.take_succ_eq_append_getElem hk, nodesL_append]
  simp [nodesL]
theorem nodesL_le {l : List Ex} (k : Nat) : nodesL (l.take k) ≤ nodesL l := by
  conv => rhs; rw [← List.take_append_drop k l]
  rw [nodesL_append]
  omega
theorem nodesL_len : ∀ l : List Ex, l.length ≤ nodesL l
  | [] => Nat.le_refl _
  | x :: l => by
    have h1 := nodesL_len l
    have h2 := nodes_pos x
    rw [nodesL, List.length_cons]
    omega
theorem nodes_mem : ∀ {l : List Ex} {y : Ex}, y ∈ l → y.nodes ≤ nodesL l
  | x :: l, y, h => by
    rw [nodesL]
    rcases List.mem_cons.1 h with rfl | h
    · omega
    · have := nodes_mem h
      omega
theorem depthL_le {d : Nat} : ∀ {l : List Ex}, depthL l ≤ d ↔ ∀ y ∈ l, y.depth ≤ d
  | [] => by simp [depthL]
  | x :: l => by
    rw [depthL, List.forall_mem_cons, ← depthL_le (l := l)]
    omega
/-! ### count -/
def I110 (x : Ex) (m k : Nat) (st : St) : Prop := ∃ n : Nat, st.h = [⟨0, .box x.cells⟩] ∧ st.s.length = 31 ∧ getS st.s 1 = num m ∧ getS st.s 2 = .bptr 0 0 ∧ getS st.s 5 = num n ∧ getS st.s 6 = num k ∧ n = min (1 + nodesL (x.args.take k)) (m + 1) ∧ (k = 0 ∨ 1 + nodesL (x.args.take (k - 1)) ≤ m)
def Q110 (x : Ex) (m : Nat) (r : R) : Prop := r.x = .exit 0 ∧ r.st.s.length = 31 ∧ getS r.st.s 5 = num (min x.nodes (m + 1) : Nat)
theorem loop110 (x : Ex) (m : Nat) (hm : m ≤ 256) (ih : ∀ y ∈ x.args, ∀ m : Nat, m ≤ 256 → ev pg (.call (.fn 53 [] []) [y.v, num m] []) = some { v := num (min y.nodes (m + 1) : Nat), st := ⟨[], []⟩ }) (st : St) (h0 : I110 x m 0 st) : ∃ r, ev pg (.code (.going 1 L53_0) st) = some r ∧ Q110 x m r := by
  refine loop_from (I110 x m) x.args.length (Q110 x m) h0 ?_ ?_
  · rintro k ⟨s, h⟩ hk ⟨n, rfl, hl, e1, e2, e5, e6, hn, hkm⟩
    simp only at hl e1 e2 e5 e6
    have hk' : (k : Int) < x.args.length := by omega
    have hnt := nodesL_take hk
    have hlen := nodesL_len (x.args.take k)
    rw [List.length_take] at hlen
    have hle := nodesL_le (l := x.args) (k + 1)
    have hnx := nodes_eq x
    have hnp := nodes_pos x.args[k]
    rw [getS_expand hl]
    by_cases hnm : n ≤ m
    · have hnm' : (n : Int) ≤ m := by omega
      have hc := ih x.args[k] (List.getElem_mem hk) (m - n) (by omega)
      have wk := wrap_id (n := (k : Int) + 1) (by omega) (by omega)
      have hsub : (m : Int) - (n : Int) = ((m - n : Nat) : Int) := by omega
      have ws := wrap_id (n := ((m - n : Nat) : Int)) (by omega) (by omega)
      have hmin : min x.args[k].nodes (m - n + 1) ≤ 257 := by omega
      have wa := wrap_id (n := (n : Int) + ((min x.args[k].nodes (m - n + 1) : Nat) : Int)) (by omega) (by omega)
      generalize hq : min x.args[k].nodes (m - n + 1) = q at *
      simp [L53_0, I110, List.range, List.range.loop, e1, e2, e5, e6, hk, hk', hnm', hsub, ws, hc, wa, wk]
      exact ⟨n + q, rfl, by omega, by omega⟩
    · have hnm' : ¬ ((n : Int) ≤ m) := by omega
      simp [L53_0, I110, Q110, List.range, List.range.loop, e1, e2, e5, e6, hk', hnm]
      omega
  · rintro ⟨s, h⟩ ⟨n, rfl, hl, e1, e2, e5, e6, hn, hkm⟩
    simp only [List.take_length] at hl e1 e2 e5 e6 hn
    have hnx := nodes_eq x
    rw [getS_expand hl]
    simp [L53_0, Q110, List.range, List.range.loop, e1, e2, e5, e6]
    omega
theorem ev53 : ∀ (x : Ex) (m : Nat), m ≤ 256 → ev pg (.call (.fn 53 [] []) [x.v, num m] []) = some { v := num (min x.nodes (m + 1) : Nat), st := ⟨[], []⟩ } := by
  refine Ex.ind fun x ih m hm => ?_
  rw [ev_call, pg53]
  simp [ir53, ev_loop]
  generalize hr : ev pg (.code (.going 1 L53_0) _) = o
  obtain ⟨r, rfl, hx, hl, h5⟩ : ∃ r, o = some r ∧ Q110 x m r := by
    rw [← hr]
    exact loop110 x m hm ih _ ⟨1, by simp, by simp, by simp, by simp, by simp, by simp, by simp [nodesL], .inl rfl⟩
  simp [hx, hl, h5]
end Go.Proofs.YtopjiafdimoeiaaGreat
