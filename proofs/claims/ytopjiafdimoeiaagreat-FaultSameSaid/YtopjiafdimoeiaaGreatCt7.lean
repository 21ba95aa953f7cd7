/- Signals: errors, by the reference. -/
import Derived.Test.YtopjiafdimoeiaaGreatCt6
namespace Go.Proofs.YtopjiafdimoeiaaGreat
open Go Go.Am Go.Proofs
set_option maxRecDepth 100000
mutual
def Ex.occ (v : Int) : Ex → Bool
  | .mk o i l => if o = 1 then i == v else occL v l
def occL (v : Int) : List Ex → Bool
  | [] => false
  | x :: l => x.occ v || occL v l
end
theorem occ_eq (v : Int) (x : Ex) : x.occ v = if x.op = 1 then x.idx == v else occL v x.args := by cases x; rw [Ex.occ]; rfl
theorem occL_at {v : Int} {l : List Ex} {k : Nat} (hk : k < l.length) : occL v (l.drop k) = (l[k].occ v || occL v (l.drop (k + 1))) := by
  rw [List.drop_eq_getElem_cons hk, occL]
def I119 (x : Ex) (v : Int) (k : Nat) (st : St) : Prop := st.h = [⟨0, .box x.cells⟩] ∧ st.s.length = 27 ∧ getS st.s 1 = num v ∧ getS st.s 2 = .bptr 0 0 ∧ getS st.s 5 = num k ∧ occL v x.args = occL v (x.args.drop k)
def Q119 (x : Ex) (v : Int) (r : R) : Prop := r.st.s.length = 27 ∧ ((r.x = .exit 0 ∧ occL v x.args = false) ∨ (r.x = .ret ∧ getS r.st.s 4 = .bool true ∧ occL v x.args = true))
theorem loop119 (x : Ex) (v : Int) (hx : x.nodes ≤ 256) (ih : ∀ y ∈ x.args, y.nodes ≤ 256 → ev pg (.call (.fn 121 [] []) [y.v, num v] []) = some { v := .bool (y.occ v), st := ⟨[], []⟩ }) (st : St) (h0 : I119 x v 0 st) : ∃ r, ev pg (.code (.going 1 L121_0) st) = some r ∧ Q119 x v r := by
  have hfew := args_few hx
  refine loop_from (I119 x v) x.args.length (Q119 x v) h0 ?_ ?_
  · rintro k ⟨s, h⟩ hk ⟨rfl, hl, e1, e2, e5, he⟩
    simp only at hl e1 e2 e5
    have hk' : (k : Int) < x.args.length := by omega
    have wk := wrap_id (n := (k : Int) + 1) (by omega) (by omega)
    have hmem := List.getElem_mem hk
    have hc := ih x.args[k] hmem (args_nodes hx hmem)
    rw [occL_at hk] at he
    rw [getS_expand hl]
    cases hd : x.args[k].occ v with
    | true =>
      rw [hd, Bool.true_or] at he
      rw [hd] at hc
      simp [L121_0, Q119, List.range, List.range.loop, e1, e2, e5, hk, hk', hc, he]
    | false =>
      rw [hd, Bool.false_or] at he
      rw [hd] at hc
      simp [L121_0, I119, List.range, List.range.loop, e1, e2, e5, hk, hk', hc, wk, he]
  · rintro ⟨s, h⟩ ⟨rfl, hl, e1, e2, e5, he⟩
    simp only [List.drop_length] at hl e1 e2 e5 he
    rw [getS_expand hl]
    simp [L121_0, Q119, List.range, List.range.loop, e1, e2, e5, he, occL]
theorem ev121 (v : Int) : ∀ x : Ex, x.nodes ≤ 256 → ev pg (.call (.fn 121 [] []) [x.v, num v] []) = some { v := .bool (x.occ v), st := ⟨[], []⟩ } := by
  refine Ex.ind fun x ih hx => ?_
  rw [ev_call, pg121, occ_eq]
  by_cases h : x.op = 1
  · have hb : (x.op == 1) = true := by simpa using h
    simp [ir121, h]
  · have hb : (x.op == 1) = false := by simpa using h
    simp [ir121, hb, h, ev_loop]
    generalize hr : ev pg (.code (.going 1 L121_0) _) = o
    obtain ⟨r, rfl, hl, hQ⟩ : ∃ r, o = some r ∧ Q119 x v r := by
      rw [← hr]
      exact loop119 x v hx ih _ ⟨by simp, by simp, by simp, by simp, by simp, rfl⟩
    rcases hQ with ⟨hx, hE⟩ | ⟨hx, h4, hE⟩
    · simp [hx, hl, hE]
    · simp [hx, h4, hE]
def Ex.zero (x : Ex) : Bool := decide (x.op = 0) && decide (x.idx = 0) && decide (x.args.length = 0)
theorem ev104 (x : Ex) : ev pg (.call (.fn 104 [] []) [x.v] []) = some { v := .bool x.zero, st := ⟨[], []⟩ } := by
  rw [ev_call, pg104]
  by_cases h1 : (x.op == 0) = true
  · have h1' : x.op = 0 := by simpa using h1
    by_cases h2 : (x.idx == 0) = true
    · have h2' : x.idx = 0 := by simpa using h2
      by_cases h3 : x.args.length = 0
      · have h3' : ((x.args.length : Int) == 0) = true := by rw [h3]; rfl
        simp [ir104, Ex.zero, h1', h2', h3]
      · have h3' : ((x.args.length : Int) == 0) = false := by simp; simpa using h3
        simp [ir104, Ex.zero, h1, h2, h3, h3']
    · have h2' : ¬ x.idx = 0 := by simpa using h2
      have h2b : (x.idx == 0) = false := by simpa using h2
      simp [ir104, Ex.zero, h1, h2b, h2']
  · have h1' : ¬ x.op = 0 := by simpa using h1
    have h1b : (x.op == 0) = false := by simpa using h1
    simp [ir104, Ex.zero, h1b, h1']
theorem ev115 (x : Ex) : ev pg (.call (.fn 115 [] []) [x.v] []) = some { v := .bool x.zero, st := ⟨[], []⟩ } := by
  rw [ev_call, pg115]
  by_cases h1 : (x.op == 0) = true
  · have h1' : x.op = 0 := by simpa using h1
    by_cases h2 : (x.idx == 0) = true
    · have h2' : x.idx = 0 := by simpa using h2
      by_cases h3 : x.args.length = 0
      · have h3' : ((x.args.length : Int) == 0) = true := by rw [h3]; rfl
        simp [ir115, Ex.zero, h1', h2', h3]
      · have h3' : ((x.args.length : Int) == 0) = false := by simp; simpa using h3
        simp [ir115, Ex.zero, h1, h2, h3, h3']
    · have h2' : ¬ x.idx = 0 := by simpa using h2
      have h2b : (x.idx == 0) = false := by simpa using h2
      simp [ir115, Ex.zero, h1, h2b, h2']
  · have h1' : ¬ x.op = 0 := by simpa using h1
    have h1b : (x.op == 0) = false := by simpa using h1
    simp [ir115, Ex.zero, h1b, h1']
/-- Does a gate use a gate that is not before it? -/
def lateGo (on : Ex) (F : Nat) : Nat → List Sg → Bool
  | _, [] => false
  | k, x :: l => (decide (x.kind = 0) && on.occ (F + k : Nat)) || lateGo on F (k + 1) l
theorem lateGo_at {on : Ex} {F : Nat} {l : List Sg} {k : Nat} (hk : k < l.length) : lateGo on F k (l.drop k) = ((decide (l[k].kind = 0) && on.occ (F + k : Nat)) || lateGo on F (k + 1) (l.drop (k + 1))) := by
  rw [List.drop_eq_getElem_cons hk, lateGo]
def I150 (c : Ct) (F i : Nat) (on : Ex) (j : Nat) (st : St) : Prop := st.h = [⟨0, .box c.cells⟩] ∧ st.s.length = 34 ∧ getS st.s 1 = num i ∧ getS st.s 2 = .bptr 0 0 ∧ getS st.s 5 = num (i + j : Nat) ∧ lateGo on F i (c.signals.drop i) = lateGo on F (i + j) (c.signals.drop (i + j))
def Q150 (c : Ct) (F i : Nat) (on : Ex) (r : R) : Prop := r.st.s.length = 34 ∧ ((r.x = .exit 0 ∧ lateGo on F i (c.signals.drop i) = false) ∨ (r.x = .ret ∧ getS r.st.s 4 = .bool true ∧ lateGo on F i (c.signals.drop i) = true))
theorem loop150 {c : Ct} {A : Nat} (h : Mid c A) (i : Nat) (hi : i < c.signals.length) (hon : c.signals[i].on.nodes ≤ 256) (st : St) (h0 : I150 c (firstN c A) i c.signals[i].on 0 st) : ∃ r, ev pg (.code (.going 1 L103_0) st) = some r ∧ Q150 c (firstN c A) i c.signals[i].on r := by
  have hf := ev101 h
  obtain ⟨hA, h1, h2, h3, h4⟩ := h
  refine loop_from (I150 c (firstN c A) i c.signals[i].on) (c.signals.length - i) (Q150 c (firstN c A) i c.signals[i].on) h0 ?_ ?_
  · rintro j ⟨s, hh⟩ hj ⟨rfl, hl, e1, e2, e5, he⟩
    simp only at hl e1 e2 e5
    obtain ⟨k, hk⟩ : ∃ k, k = i + j := ⟨_, rfl⟩
    have hkl : k < c.signals.length := by omega
    have hk' : (k : Int) < c.signals.length := by omega
    have wk := wrap_id (n := (k : Int) + 1) (by omega) (by omega)
    have wf := wrap_id (n := 2 * (A : Int) + (c.inputs.length : Int) + (k : Int)) (by omega) (by omega)
    have ho := ev121 (firstN c A + k : Nat) c.signals[i].on hon
    rw [← hk] at e5 he
    rw [lateGo_at hkl] at he
    have hk1 : i + (j + 1) = k + 1 := by omega
    generalize hoc : c.signals[i].on.occ (firstN c A + k : Nat) = oc at *
    rw [getS_expand hl]
    unfold I150
    rw [hk1]
    simp at ho
    by_cases hkind : c.signals[k].kind = 0
    · have hkb : (c.signals[k].kind == 0) = true := by simpa using hkind
      rw [decide_eq_true hkind, Bool.true_and] at he
      cases oc with
      | true =>
        rw [Bool.true_or] at he
        simp [ev_draw1, exT, chkOk, L103_0, Q150, List.range, List.range.loop, e1, e2, e5, hkl, hk', hkb, hi, hf, wf, ho, he]
      | false =>
        rw [Bool.false_or] at he
        simp [ev_draw1, exT, chkOk, L103_0, List.range, List.range.loop, e1, e2, e5, hkl, hk', hkb, hi, hf, wf, ho, wk, he]
    · have hkb : (c.signals[k].kind == 0) = false := by simpa using hkind
      rw [decide_eq_false hkind, Bool.false_and, Bool.false_or] at he
      simp [ev_draw1, exT, chkOk, L103_0, List.range, List.range.loop, e1, e2, e5, hkl, hk', hkb, wk, he]
  · rintro ⟨s, hh⟩ ⟨rfl, hl, e1, e2, e5, he⟩
    have hk : i + (c.signals.length - i) = c.signals.length := by omega
    rw [hk] at e5 he
    simp only [List.drop_length] at hl e1 e2 e5 he
    rw [getS_expand hl]
    simp [L103_0, Q150, List.range, List.range.loop, e1, e2, e5, he, lateGo]
theorem ev103 {c : Ct} {A : Nat} (h : Mid c A) (i : Nat) (hi : i < c.signals.length) (hon : c.signals[i].on.nodes ≤ 256) : ev pg (.call (.fn 103 [] []) [c.v, num i] []) = some { v := .bool (lateGo c.signals[i].on (firstN c A) i (c.signals.drop i)), st := ⟨[], []⟩ } := by
  rw [ev_call, pg103]
  simp [ir103, ev_loop]
  generalize hr : ev pg (.code (.going 1 L103_0) _) = o
  obtain ⟨r, rfl, hl, hQ⟩ : ∃ r, o = some r ∧ Q150 c (firstN c A) i c.signals[i].on r := by
    rw [← hr]
    exact loop150 h i hi hon _ ⟨by simp, by simp, by simp, by simp, by simp, rfl⟩
  rcases hQ with ⟨hx, hE⟩ | ⟨hx, h4, hE⟩
  · simp [hx, hl, hE]
  · simp [hx, h4, hE]
end Go.Proofs.YtopjiafdimoeiaaGreat
