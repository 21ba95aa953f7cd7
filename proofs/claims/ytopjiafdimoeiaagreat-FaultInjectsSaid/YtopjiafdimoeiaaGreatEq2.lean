/- Are expressions and controls equal? -/
import Derived.Test.YtopjiafdimoeiaaGreatEq1
namespace Go.Proofs.YtopjiafdimoeiaaGreat
open Go Go.Am Go.Proofs
set_option maxRecDepth 100000
mutual
def Ex.same : Ex → Ex → Bool
  | .mk o i l, .mk o' i' l' => o == o' && (i == i' && sameL l l')
def sameL : List Ex → List Ex → Bool
  | [], [] => true
  | x :: l, y :: l' => x.same y && sameL l l'
  | _, _ => false
end
theorem same_eq (x y : Ex) : x.same y = (x.op == y.op && (x.idx == y.idx && sameL x.args y.args)) := by cases x; cases y; rw [Ex.same]; rfl
theorem sameL_at {l l' : List Ex} {k : Nat} (hk : k < l.length) (hk' : k < l'.length) : sameL (l.drop k) (l'.drop k) = (l[k].same l'[k] && sameL (l.drop (k + 1)) (l'.drop (k + 1))) := by
  rw [List.drop_eq_getElem_cons hk, List.drop_eq_getElem_cons hk', sameL]
theorem sameL_len : ∀ {l l' : List Ex}, sameL l l' = true → l'.length = l.length
  | [], [], _ => rfl
  | x :: l, y :: l', h => by
    rw [sameL, Bool.and_eq_true] at h
    rw [List.length_cons, List.length_cons, sameL_len h.2]
  | [], y :: l', h => by simp [sameL] at h
  | x :: l, [], h => by simp [sameL] at h
mutual
theorem same_iff : ∀ {x y : Ex}, x.same y = true ↔ x = y
  | .mk o i l, .mk o' i' l' => by
    rw [Ex.same, Bool.and_eq_true, Bool.and_eq_true, beq_iff_eq, beq_iff_eq, sameL_iff, Ex.mk.injEq]
theorem sameL_iff : ∀ {l l' : List Ex}, sameL l l' = true ↔ l = l'
  | [], [] => by rw [sameL]; simp
  | x :: l, y :: l' => by rw [sameL, Bool.and_eq_true, same_iff, sameL_iff, List.cons.injEq]
  | [], y :: l' => by simp [sameL]
  | x :: l, [] => by simp [sameL]
end
def I190 (l l' : List Ex) (k : Nat) (st : St) : Prop := st.h = [] ∧ st.s.length = 32 ∧ getS st.s 0 = .imm (l.map Ex.row) ∧ getS st.s 1 = .imm (l'.map Ex.row) ∧ getS st.s 2 = .fn 123 [] [] ∧ getS st.s 15 = .imm (l.map Ex.row) ∧ getS st.s 16 = num l.length ∧ getS st.s 17 = num k ∧ sameL l l' = sameL (l.drop k) (l'.drop k)
def Q190 (l l' : List Ex) (r : R) : Prop := r.st.s.length = 32 ∧ ((r.x = .exit 0 ∧ r.st.h = [] ∧ sameL l l' = true) ∨ (r.x = .ret ∧ getS r.st.s 6 = .bool false ∧ sameL l l' = false))
theorem loop190 (l l' : List Ex) (hab : l'.length = l.length) (hl9 : l.length ≤ 4096) (ih : ∀ x ∈ l, ∀ y, ev pg (.call (.fn 123 [] []) [x.v, y.v] []) = some { v := .bool (x.same y), st := ⟨[], []⟩ }) (st : St) (h0 : I190 l l' 0 st) : ∃ r, ev pg (.code (.going 0 L131_0) st) = some r ∧ Q190 l l' r := by
  refine loop_from (I190 l l') l.length (Q190 l l') h0 ?_ ?_
  · rintro k ⟨s, hh⟩ hk ⟨rfl, hl, e0, e1, e2, e15, e16, e17, he⟩
    simp only at hl e0 e1 e2 e15 e16 e17
    have hk' : (k : Int) < l.length := by omega
    have hkb : k < l'.length := by omega
    have wk := wrap_id (n := (k : Int) + 1) (by omega) (by omega)
    rw [sameL_at hk hkb] at he
    have hi := ih l[k] (List.getElem_mem hk) l'[k]
    rw [getS_expand hl]
    cases hb : l[k].same l'[k] with
    | true =>
      rw [hb, Bool.true_and] at he
      rw [hb] at hi
      simp [L131_0, I190, List.range, List.range.loop, e0, e1, e2, e15, e16, e17, hk, hk', hkb, hi, wk]
      simpa using he
    | false =>
      rw [hb, Bool.false_and] at he
      rw [hb] at hi
      simp [L131_0, Q190, List.range, List.range.loop, e0, e1, e2, e15, e16, e17, hk, hk', hkb, hi]
      simpa using he
  · rintro ⟨s, hh⟩ ⟨rfl, hl, e0, e1, e2, e15, e16, e17, he⟩
    simp only [List.drop_length] at hl e0 e1 e2 e15 e16 e17 he
    rw [show List.drop l.length l' = [] by rw [← hab]; exact List.drop_length, sameL] at he
    rw [getS_expand hl]
    simp [L131_0, Q190, List.range, List.range.loop, e0, e1, e2, e15, e16, e17]
    simpa using he
theorem ev131 (l l' : List Ex) (hl9 : l.length ≤ 4096) (ih : ∀ x ∈ l, ∀ y, ev pg (.call (.fn 123 [] []) [x.v, y.v] []) = some { v := .bool (x.same y), st := ⟨[], []⟩ }) : ev pg (.call (.fn 131 [] []) [.imm (l.map Ex.row), .imm (l'.map Ex.row), .fn 123 [] []] []) = some { v := .bool (sameL l l'), st := ⟨[], []⟩ } := by
  by_cases hab : l'.length = l.length
  · have hloop := loop190 l l' hab hl9 ih
    have hab' : (l'.length : Int) = l.length := by omega
    unfold Q190 at hloop
    have hI : ∀ st : St, I190 l l' 0 st ↔ (st.h = [] ∧ st.s.length = 32 ∧ getS st.s 0 = .imm (l.map Ex.row) ∧ getS st.s 1 = .imm (l'.map Ex.row) ∧ getS st.s 2 = .fn 123 [] [] ∧ getS st.s 15 = .imm (l.map Ex.row) ∧ getS st.s 16 = num l.length ∧ getS st.s 17 = num 0) := fun st => by
      unfold I190
      exact ⟨fun h => ⟨h.1, h.2.1, h.2.2.1, h.2.2.2.1, h.2.2.2.2.1, h.2.2.2.2.2.1, h.2.2.2.2.2.2.1, h.2.2.2.2.2.2.2.1⟩, fun h => ⟨h.1, h.2.1, h.2.2.1, h.2.2.2.1, h.2.2.2.2.1, h.2.2.2.2.2.1, h.2.2.2.2.2.2.1, h.2.2.2.2.2.2.2, rfl⟩⟩
    generalize sameL l l' = B at *
    rw [ev_call, pg131]
    simp [ir131, ev_loop, hab']
    generalize hr : ev pg (.code (.going _ L131_0) _) = o
    obtain ⟨r, rfl, hl, hQ⟩ : ∃ r, o = some r ∧ _ := by
      rw [← hr]
      exact hloop _ ((hI _).2 ⟨by simp, by simp, by simp, by simp, by simp, by simp, by simp, by simp⟩)
    rcases hQ with ⟨hx, hh, rfl⟩ | ⟨hx, h6, rfl⟩
    · simp [hx, hh, hl]
    · simp [hx, h6]
  · have hd : sameL l l' = false := by
      rw [← Bool.not_eq_true]
      intro e
      exact hab (sameL_len e)
    have hne : ((l.length : Int) != (l'.length : Int)) = true := by
      rw [bne_iff_ne]; omega
    rw [hd, ev_call, pg131]
    simp [ir131, hne]
theorem ev123_of (x y : Ex) (h190 : ev pg (.call (.fn 131 [] []) [.imm (x.args.map Ex.row), .imm (y.args.map Ex.row), .fn 123 [] []] []) = some { v := .bool (sameL x.args y.args), st := ⟨[], []⟩ }) : ev pg (.call (.fn 123 [] []) [x.v, y.v] []) = some { v := .bool (x.same y), st := ⟨[], []⟩ } := by
  rw [same_eq]
  generalize sameL x.args y.args = B at *
  rw [ev_call, pg123]
  by_cases h1 : x.op = y.op
  · have n1 : (x.op == y.op) = true := by simpa using h1
    by_cases h2 : x.idx = y.idx
    · have n2 : (x.idx == y.idx) = true := by simpa using h2
      simp [ir123, n1, n2, h190]
    · have n2 : (x.idx == y.idx) = false := by simpa using h2
      simp [ir123, n1, n2]
  · have n1 : (x.op == y.op) = false := by simpa using h1
    simp [ir123, n1]
theorem ev123 : ∀ x : Ex, x.nodes ≤ 256 → ∀ y : Ex, ev pg (.call (.fn 123 [] []) [x.v, y.v] []) = some { v := .bool (x.same y), st := ⟨[], []⟩ }
  | .mk o i l, hx, y => ev123_of _ y (by
    have hfew := args_few hx
    exact ev131 l y.args (by simp only [Ex.args] at hfew; omega) fun x hm y => ev123 x (by
      have h1 := nodes_mem hm
      rw [Ex.nodes] at hx
      omega) y)
  termination_by x => x.nodes
  decreasing_by
    have h1 := nodes_mem hm
    rw [Ex.nodes]
    omega
theorem ev105 (x y : Ex) (hx : x.light = true) (hy : y.light = true) : ev pg (.call (.fn 105 [] []) [x.v, y.v] []) = some { v := .bool (x.same y), st := ⟨[], []⟩ } := by
  have h1 := ev122 x hx
  have h2 := ev122 y hy
  have h3 := ev123 x (light_nodes hx).1 y
  have i1 := wrap_id (n := 1) (by omega) (by omega)
  have i2 := wrap_id (n := 2) (by omega) (by omega)
  generalize x.same y = B at *
  generalize x.nodes = a at *
  generalize x.depth = b at *
  generalize y.nodes = d at *
  generalize y.depth = e at *
  rw [ev_call, pg105]
  simp [ir105, ev_loop]
  rw [ev_going]
  simp [L105_0, h1, i1]
  rw [ev_going]
  simp [h2, i2]
  rw [ev_going]
  simp [h3]
end Go.Proofs.YtopjiafdimoeiaaGreat
