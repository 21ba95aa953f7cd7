/- A fault that touches nothing leaves the control as it is; faults that are alike touch the same pilots. Expressions in place of variables, by the reference. -/
import Derived.Test.YtopjiafdimoeiaaGreatFy5
/- A fault that touches nothing leaves the control as it is; faults that are alike touch the same pilots. -/
namespace Go.Proofs.YtopjiafdimoeiaaGreat
open Go Go.Am Go.Proofs
set_option maxRecDepth 100000
mutual
theorem repl_same (n v : Int) : ∀ x : Ex, x.repl n v = x ↔ x.had n = false
  | .mk o i l => by
    rw [Ex.repl, Ex.had]
    by_cases h : o = 1 ∧ i = n
    · rw [if_pos h, if_pos h, Ex.mk.injEq]
      exact ⟨fun e => by have := e.1; omega, fun e => by cases e⟩
    · rw [if_neg h, if_neg h, Ex.mk.injEq, replL_same n v l]
      simp
theorem replL_same (n v : Int) : ∀ l : List Ex, replL n v l = l ↔ hadL n l = false
  | [] => by rw [replL, hadL]; simp
  | x :: l => by rw [replL, hadL, List.cons.injEq, repl_same n v x, replL_same n v l, Bool.or_eq_false_iff]
end
end Go.Proofs.YtopjiafdimoeiaaGreat
/- Expressions in place of variables, by the reference. -/
namespace Go.Proofs.YtopjiafdimoeiaaGreat
open Go Go.Am Go.Proofs
set_option maxRecDepth 100000
theorem ev70 (b : Bool) : ev pg (.call (.fn 70 [] []) [.bool b] []) = some { v := (Ex.mk 0 (if b = true then 1 else 0) []).v, st := ⟨[], []⟩ } := by
  rw [ev_call, pg70]
  cases b <;> simp [ir70, Ex.op, Ex.idx, Ex.args]
mutual
def Ex.put (l : List Ex) : Ex → Ex
  | .mk o i a => if o = 1 then (l[i.toNat]?).getD (.mk 0 0 []) else .mk o i (putAll l a)
def putAll (l : List Ex) : List Ex → List Ex
  | [] => []
  | x :: a => x.put l :: putAll l a
end
theorem put_eq (l : List Ex) (x : Ex) : x.put l = if x.op = 1 then (l[x.idx.toNat]?).getD (.mk 0 0 []) else .mk x.op x.idx (putAll l x.args) := by cases x; rw [Ex.put]; rfl
theorem putAll_map (l : List Ex) : ∀ a : List Ex, putAll l a = a.map (Ex.put l)
  | [] => rfl
  | x :: a => by rw [putAll, putAll_map l a]; rfl
abbrev mid97 (x : Ex) (g m len : Nat) (rows : List (List V)) : H := [⟨0, .box x.cells⟩, ⟨0, .arr 0 []⟩, ⟨0, .box [num 0, num 0, .sl 1 0 0 0 0]⟩, ⟨0, .arr 0 []⟩, ⟨0, .box [num x.op, num x.idx, .sl 5 g m 0 len]⟩, ⟨g, .arr m rows⟩]
structure Keep97 (l : List Ex) (k : Nat) (st : List V) : Prop where
  nn : noNil st
  len : st.length = 40
  t1 : getS st 1 = .imm (l.map Ex.row)
  t2 : getS st 2 = .bptr 0 0
  t4 : getS st 4 = .bptr 2 0
  t5 : getS st 5 = .bptr 4 0
  t6 : getS st 6 = num k
def I97 (l : List Ex) (x : Ex) (k : Nat) (st : St) : Prop := ∃ g m, st.h = mid97 x g m k ((x.args.take k).map fun y => (y.put l).row) ∧ (m = 3 ∨ m = 0) ∧ Keep97 l k st.s
def Q97 (l : List Ex) (x : Ex) (q : Am.R) : Prop := q.x = .exit 0 ∧ ∃ g m, q.st.h = mid97 x g m x.args.length (x.args.map fun y => (y.put l).row) ∧ (m = 3 ∨ m = 0) ∧ Keep97 l x.args.length q.st.s
theorem loop97 (l : List Ex) (x : Ex) (hx : x.nodes ≤ 256) (ih : ∀ y ∈ x.args, ev pg (.call (.fn 97 [] []) [y.v, .imm (l.map Ex.row)] []) = some { v := (y.put l).v, st := ⟨[], []⟩ }) (st : St) (h0 : I97 l x 0 st) : ∃ q, ev pg (.code (.going 6 L97_0) st) = some q ∧ Q97 l x q := by
  have hfew := args_few hx
  refine loop_from (I97 l x) x.args.length (Q97 l x) h0 ?_ ?_
  · rintro k ⟨s, hh⟩ hk ⟨g, m, rfl, hm, ⟨hnn, hl, e1, e2, e4, e5, e6⟩⟩
    simp only at hl e1 e2 e4 e5 e6
    have hnl : ∀ j, getS s j ≠ .nils := noNil_get hnn
    have hk' : (k : Int) < x.args.length := by omega
    have wk := wrap_id (n := (k : Int) + 1) (by omega) (by omega)
    have hi := ih x.args[k] (List.getElem_mem hk)
    have hsn : (x.args.take (k + 1)).map (fun y => (y.put l).row) = (x.args.take k).map (fun y => (y.put l).row) ++ [(x.args[k].put l).row] := by
      rw [List.take_succ_eq_append_getElem hk, List.map_append]; rfl
    have hln : ((x.args.take k).map fun y => (y.put l).row).length = k := by
      rw [List.length_map, List.length_take]; omega
    have hb : (k + 1) * 40 ≤ 140737488355328 := by omega
    unfold I97
    rw [hsn]
    generalize (x.args.take k).map (fun y => (y.put l).row) = W at *
    generalize x.args[k].put l = z at *
    rw [getS_expand hl]
    rcases hm with rfl | rfl
    · simp [ev_draw1, exT, chkOk, L97_0, List.range, List.range.loop, e1, e2, e4, e5, e6, hk, hk', hi, hln, hb, wk]
      exact ⟨_, _, ⟨rfl, rfl⟩, .inl rfl, by simp [noNil, hnl], rfl, rfl, rfl, rfl, rfl, rfl⟩
    · simp [ev_draw1, exT, chkOk, L97_0, List.range, List.range.loop, e1, e2, e4, e5, e6, hk, hk', hi, hln, hb, wk]
      exact ⟨_, _, ⟨rfl, rfl⟩, .inl rfl, by simp [noNil, hnl], rfl, rfl, rfl, rfl, rfl, rfl⟩
  · rintro ⟨s, hh⟩ ⟨g, m, rfl, hm, ⟨hnn, hl, e1, e2, e4, e5, e6⟩⟩
    simp only at hl e1 e2 e4 e5 e6
    have hnl : ∀ j, getS s j ≠ .nils := noNil_get hnn
    rw [List.take_length]
    unfold Q97
    generalize x.args.map (fun y => (y.put l).row) = W at *
    rw [getS_expand hl]
    simp [L97_0, List.range, List.range.loop, e1, e2, e4, e5, e6]
    exact ⟨_, _, ⟨rfl, rfl⟩, hm, by simp [noNil, hnl], rfl, rfl, rfl, rfl, rfl, rfl⟩
theorem ev97 (l : List Ex) : ∀ x : Ex, x.nodes ≤ 256 → x.err l.length = 0 → ev pg (.call (.fn 97 [] []) [x.v, .imm (l.map Ex.row)] []) = some { v := (x.put l).v, st := ⟨[], []⟩ } := by
  refine Ex.ind fun x ih hx he => ?_
  obtain ⟨hn, hargs⟩ := err_zero he
  rw [put_eq]
  rw [ev_call, pg97]
  by_cases ho : x.op = 1
  · obtain ⟨hi0, hi1⟩ := node_var hn ho
    have hb : (x.op == 1) = true := by simpa using ho
    have hin : x.idx.toNat < l.length := by omega
    rw [if_pos ho]
    have hget : l[x.idx.toNat]? = some l[x.idx.toNat] := List.getElem?_eq_getElem hin
    rw [hget, Option.getD_some]
    simp [ir97, hb, hi0, hin]
  · have hb : (x.op == 1) = false := by simpa using ho
    rw [if_neg ho, putAll_map]
    have hloop := loop97 l x hx (fun y hy => ih y hy (by have := args_nodes hx hy; omega) (hargs y hy))
    have hI : ∀ st : St, (st.h = mid97 x 0 0 0 [] ∧ Keep97 l 0 st.s) → I97 l x 0 st := fun st h => ⟨0, 0, h.1, .inr rfl, h.2⟩
    unfold Q97 at hloop
    have hmm : (x.args.map (Ex.put l)).map Ex.row = x.args.map fun y => (y.put l).row := by rw [List.map_map]; rfl
    have hmn : (x.args.map fun y => (y.put l).row).length = x.args.length := by simp
    simp [ir97, hb, ev_loop]
    generalize hr : ev pg (.code (.going _ L97_0) _) = o
    obtain ⟨q, rfl, hq, g, m, hh, hm, hk⟩ : ∃ q, o = some q ∧ _ := by
      rw [← hr]
      exact hloop _ (hI _ ⟨by simp, by simp [noNil], by simp, by simp, by simp, by simp, by simp, by simp⟩)
    have k4 := hk.t4
    have k5 := hk.t5
    have kl := hk.len
    have hrow : (x.args.map fun y => (y.put l).cells) = (x.args.map (Ex.put l)).map Ex.row := by
      rw [List.map_map]
      exact List.map_congr_left fun y _ => (row_eq _).symm
    rcases hm with rfl | rfl
    · simp [hq, hh, k4, k5, kl]
      exact ⟨rfl, rfl, hrow⟩
    · simp [hq, hh, k4, k5, kl]
      exact ⟨rfl, rfl, hrow⟩
/-! ### all variables, but for one -/
def varL (n : Nat) : List Ex := (List.range n).map fun (i : Nat) => .mk 1 i []
def varX (n : Nat) (line : Nat) (v : Int) : List Ex := (varL n).set line (.mk 0 v [])
theorem varL_succ (n : Nat) : varL (n + 1) = varL n ++ [.mk 1 n []] := by
  unfold varL
  rw [List.range_succ, List.map_append]; rfl
theorem varL_len (n : Nat) : (varL n).length = n := by simp [varL]
theorem varX_len (n line : Nat) (v : Int) : (varX n line v).length = n := by unfold varX; rw [List.length_set, varL_len]
theorem put_repl (n : Nat) (line : Nat) (v : Int) (hline : line < n) : ∀ x : Ex, x.err n = 0 → x.put (varX n line v) = x.repl line v := by
  refine Ex.ind fun x ih he => ?_
  obtain ⟨hn, hargs⟩ := err_zero he
  rw [put_eq, repl_eq]
  by_cases ho : x.op = 1
  · obtain ⟨hi0, hi1⟩ := node_var hn ho
    have hin : x.idx.toNat < n := by omega
    rw [if_pos ho]
    unfold varX
    by_cases hi : x.idx = line
    · have e : line = x.idx.toNat := by omega
      rw [if_pos ⟨ho, hi⟩, e, List.getElem?_set_self (by rw [varL_len]; exact hin)]
      rfl
    · rw [if_neg (fun h => hi h.2), List.getElem?_set_ne (by omega)]
      unfold varL
      rw [List.getElem?_map, List.getElem?_range hin]
      have ha : x.args = [] := List.length_eq_zero_iff.1 (node_arg hn ho)
      rw [ha, ho, replL]
      simp only [Option.map_some, Option.getD_some]
      rw [Int.toNat_of_nonneg hi0]
  · rw [if_neg ho, if_neg (fun h => ho h.1), putAll_map, replL_map]
    congr 1
    exact List.map_congr_left fun y hy => ih y hy (hargs y hy)
abbrev h66 (x : Ex) (g m : Nat) (rows : List (List V)) : H := [⟨0, .box x.cells⟩, ⟨0, .arr 0 []⟩, ⟨0, .box [num 0, num 0, .sl 1 0 0 0 0]⟩, ⟨g, .arr m rows⟩]
structure Keep66 (x : Ex) (line n : Int) (b : Bool) (st : List V) : Prop where
  nn : noNil st
  len : st.length = 29
  t1 : getS st 1 = num line
  t2 : getS st 2 = .bool b
  t3 : getS st 3 = num n
  t4 : getS st 4 = .bptr 0 0
  t8 : getS st 8 = .bptr 2 0
def I66 (x : Ex) (line : Int) (n : Nat) (b : Bool) (k : Nat) (st : St) : Prop := ∃ g m, st.h = h66 x g m ((varL k).map Ex.row) ∧ (m = 3 ∨ (m = 0 ∧ k = 0)) ∧ Keep66 x line n b st.s ∧ getS st.s 9 = .sl 3 g m 0 k ∧ getS st.s 10 = num k
def Q66 (x : Ex) (line : Int) (n : Nat) (b : Bool) (r : Am.R) : Prop := r.x = .exit 0 ∧ ∃ g m, r.st.h = h66 x g m ((varL n).map Ex.row) ∧ (m = 3 ∨ (m = 0 ∧ n = 0)) ∧ Keep66 x line n b r.st.s ∧ getS r.st.s 9 = .sl 3 g m 0 n
theorem loop66 (x : Ex) (line : Int) (n : Nat) (hn9 : n ≤ 256) (b : Bool) (st : St) (h0 : I66 x line n b 0 st) : ∃ r, ev pg (.code (.going 4 L66_0) st) = some r ∧ Q66 x line n b r := by
  refine loop_from (I66 x line n b) n (Q66 x line n b) h0 ?_ ?_
  · rintro k ⟨s, hh⟩ hk ⟨g, m, rfl, hm, ⟨hnn, hl, e1, e2, e3, e4, e8⟩, e9, e10⟩
    simp only at hl e1 e2 e3 e4 e8 e9 e10
    have hnl : ∀ j, getS s j ≠ .nils := noNil_get hnn
    have wk := wrap_id (n := (k : Int) + 1) (by omega) (by omega)
    have hk' : (k : Int) < n := by omega
    have hsn : (varL (k + 1)).map Ex.row = (varL k).map Ex.row ++ [(Ex.mk 1 k []).row] := by rw [varL_succ, List.map_append]; rfl
    have hln : ((varL k).map Ex.row).length = k := by rw [List.length_map, varL_len]
    have hb : (k + 1) * 40 ≤ 140737488355328 := by omega
    unfold I66
    rw [hsn]
    generalize (varL k).map Ex.row = W at *
    rw [getS_expand hl]
    rcases hm with rfl | ⟨rfl, hk0⟩
    · simp [L66_0, List.range, List.range.loop, e1, e2, e3, e4, e8, e9, e10, hk', hln, hb, wk]
      exact ⟨_, _, ⟨rfl, rfl, rfl, rfl, rfl⟩, rfl, ⟨by simp [noNil, hnl], rfl, rfl, rfl, rfl, rfl, rfl⟩, rfl, rfl⟩
    · simp [L66_0, List.range, List.range.loop, e1, e2, e3, e4, e8, e9, e10, hk', hln, hb, wk]
      exact ⟨_, _, ⟨rfl, rfl, rfl, rfl, rfl⟩, rfl, ⟨by simp [noNil, hnl], rfl, rfl, rfl, rfl, rfl, rfl⟩, rfl, rfl⟩
  · rintro ⟨s, hh⟩ ⟨g, m, rfl, hm, ⟨hnn, hl, e1, e2, e3, e4, e8⟩, e9, e10⟩
    simp only at hl e1 e2 e3 e4 e8 e9 e10
    have hnl : ∀ j, getS s j ≠ .nils := noNil_get hnn
    unfold Q66
    generalize (varL n).map Ex.row = W at *
    rw [getS_expand hl]
    simp [L66_0, List.range, List.range.loop, e1, e2, e3, e4, e8, e9, e10]
    exact ⟨_, _, ⟨rfl, rfl⟩, hm, ⟨by simp [noNil, hnl], rfl, rfl, rfl, rfl, rfl, rfl⟩, rfl, rfl⟩
theorem ev66 (x : Ex) (line n : Nat) (hline : line < n) (hn9 : n ≤ 256) (b : Bool) (hx : x.nodes ≤ 256) (he : x.err n = 0) : ev pg (.call (.fn 66 [] []) [x.v, num line, .bool b, num n] []) = some { v := (x.repl line (if b = true then 1 else 0)).v, st := ⟨[], []⟩ } := by
  have hloop := loop66 x line n hn9 b
  have h70 := ev70 b
  have h97 := ev97 (varX n line (if b = true then 1 else 0)) x hx (by rw [varX_len]; exact he)
  rw [put_repl n line _ hline x he] at h97
  have hI : ∀ st : St, (st.h = h66 x 0 0 [] ∧ Keep66 x line n b st.s ∧ getS st.s 9 = .sl 3 0 0 0 0 ∧ getS st.s 10 = num 0) → I66 x line n b 0 st := fun st h => ⟨0, 0, h.1, .inr ⟨rfl, rfl⟩, h.2.1, h.2.2.1, h.2.2.2⟩
  have hvar : (varX n line (if b = true then 1 else 0)).map Ex.row = ((varL n).map Ex.row).set line [num 0, num (if b = true then 1 else 0), .imm []] := by
    unfold varX
    rw [List.map_set]; rfl
  have hget : ((varL n).map Ex.row)[line]? = some [num 1, num line, .imm []] := by
    unfold varL
    rw [List.getElem?_map, List.getElem?_map, List.getElem?_range hline]; rfl
  have hln : ((varL n).map Ex.row).length = n := by rw [List.length_map, varL_len]
  rw [hvar] at h97
  unfold Q66 at hloop
  generalize (varL n).map Ex.row = W at *
  generalize (if b = true then (1 : Int) else 0) = bv at *
  generalize x.repl line bv = z at *
  rw [ev_call, pg66]
  simp [ir66, ev_loop]
  generalize hr : ev pg (.code (.going _ L66_0) _) = o
  obtain ⟨r, rfl, hq, g, m, hh, hm, hk, h9⟩ : ∃ r, o = some r ∧ _ := by
    rw [← hr]
    exact hloop _ (hI _ ⟨by simp, ⟨by simp [noNil], by simp, by simp, by simp, by simp, by simp, by simp⟩, by simp, by simp⟩)
  have k1 := hk.t1
  have k2 := hk.t2
  have k4 := hk.t4
  have k8 := hk.t8
  have kl := hk.len
  have hgE : ∀ h : line < W.length, W[line]'h = [num 1, num line, .imm []] := fun h => by
    rw [List.getElem?_eq_getElem h, Option.some.injEq] at hget
    exact hget
  have e1 : (Ex.mk 0 bv []).op = 0 := rfl
  have e2 : (Ex.mk 0 bv []).idx = bv := rfl
  have e3 : (Ex.mk 0 bv []).args = [] := rfl
  rcases hm with rfl | ⟨_, h0⟩
  · simp [hq, hh, k1, k2, k4, k8, kl, h9, h70, hline, hgE, hln, h97, e1, e2, e3]
  · omega
end Go.Proofs.YtopjiafdimoeiaaGreat
